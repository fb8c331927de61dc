/- Texts of one chain, put together (G11, StA, MrA, GtC, GtD). -/
import Derived.Test.YtajeeghgiilhiaaGreatKxK
import Derived.Sort.LotA
import Derived.Test.YtajeeghgiilhiaaGreatKxF
import Derived.Test.YtajeeghgiilhiaaGreatKxA
set_option linter.unusedVariables false
set_option linter.unusedSimpArgs false
set_option maxHeartbeats 16000000
set_option maxRecDepth 8000
section
namespace Go.Proofs.YtajeeghgiilhiaaGreat
open Go Go.Abs Go.RowKit Go.Bk
theorem z8{o:Od}(h:bw o=true):0≤o.done∧o.done≤o.aq∧0≤o.aq∧o.aq≤1099511627776∧0≤o.aA∧o.aA≤1099511627776:=by
 simp only[bw,bS,Bool.and_eq_true,decide_eq_true_eq] at h;omega
theorem Gq{l:List Vn}{k m:Nat}{w:Vn}{fo:Od}{id:Bs}{q p:Int}(h:k<l.length):((((l.map aS++spare 8 m).set k (iJ w)).set k (.agg [aV w.book.ak,cg w.book.al,.sl none 1 (w.book.ids.map str),i64 w.book.clock,i64 w.book.bad,.sl (some 0) 8 (w.ax.map a8++[AV.agg [str id,str fo.acc,str fo.sym,bl fo.az,i64 q,i64 p,i64 fo.done,bl fo.bq]]),i64 w.last,bl w.bB])).set k (.agg [aV w.book.ak,cg w.book.al,.sl none 1 (w.book.ids.map str),i64 w.book.clock,i64 w.book.bad,.sl none 8 (w.ax.map a8++[AV.agg [str id,str fo.acc,str fo.sym,bl fo.az,i64 q,i64 p,i64 fo.done,bl fo.bq]]),i64 w.last,bl w.bB]))=(l.set k (fg w (eZ fo id q p))).map aS++spare 8 m:=CA (o:=eZ fo id q p) h
section
variable{g:Gt}{k:Nat}{w:Vn}{old id:Bs}{q p:Int}{fo:Od}{fnd:Bool}(ha:ba g (k:Int)=true)(hx:g.ao[k]?=some w)(hff:findF w.book.ak old=(fo,fnd))
include ha hx hff
theorem pb(h:fnd=false∨fo.bq=false):eo g (k:Int) old id q p=(g,0,6):=by rw[ku ha hx,hff,if_pos h]
variable(h1:fnd=true)(h2:fo.bq=true)
include h1 h2
theorem rO(hm:bw (eZ fo id q p)=false):eo g (k:Int) old id q p=(g,0,1):=by rw[ku ha hx,hff,if_neg (by simp[h1,h2]),if_pos hm]
variable(hm:bw (eZ fo id q p)=true)
include hm
theorem qw(hk:eM w id=true):eo g (k:Int) old id q p=(g,0,7):=by rw[ku ha hx,hff,if_neg (by simp[h1,h2]),if_neg (by simp[hm]),if_pos hk]
variable(hk:eM w id=false)
include hk
theorem PZ(hw:¬dy g w (lH fo id q p)=0):eo g (k:Int) old id q p=(g,dy g w (lH fo id q p),0):=by rw[ku ha hx,hff,if_neg (by simp[h1,h2]),if_neg (by simp[hm]),if_neg (by simp[hk]),if_pos hw]
theorem Jc(hw:dy g w (lH fo id q p)=0):eo g (k:Int) old id q p=(cq g k (fg w (eZ fo id q p)),0,0):=by rw[ku ha hx,hff,if_neg (by simp[h1,h2]),if_neg (by simp[hm]),if_neg (by simp[hk]),if_neg (by simp[hw])]
end
theorem M0(g:Gt)(n:Int)(old id:Bs)(q p:Int)(hg:bP g)(ha:ba g n=false):ai E 85 [aO g,i64 n,str old,str id,i64 q,i64 p] (fun r t=>r= .aC [aO g,i64 0,i64 1]∧t=[]):=by
 have hgi:=hg.fit
 refine ai.aw (n:=93) (rs:=[.cell 12 58,.tmp 13,.tmp 14]) Tryz.func85 rfl Tryz.ntmps85 rfl ?_
 repeat'(first
 |refine aa.aj fun K hK=>?_
 |(refine aa.region ?_;simp only[go_sem,ha])
 |(refine hK _ ?_;clear hK K)
 |refine aa.cond rfl (fun c=>?_) (fun c=>?_)<;>first|exact Bool.noConfusion c|(try simp only[dD] at c)
 |(refine ah.one (mO g hg) af rfl ?_;simp only[go_sem,ha])
 |(refine ah.one (ig g n hgi) af rfl ?_;simp only[go_sem,ha])
 |(
  refine aa.ret ?_
  refine aB.is ?_;simp only[go_sem,aE,aI,aH,aG,aJ,aF]<;>(first|fail)))
theorem Ku(g:Gt)(k:Nat)(w:Vn)(old id:Bs)(q p:Int)(hg:bP g)(hx0:g.ao[k]?=some w)(ha:ba g (k:Int)=true):ai E 85 [aO g,i64 (k:Int),str old,str id,i64 q,i64 p] (fun r t=>r= .aC [aO (eo g (k:Int) old id q p).1,i64 (eo g (k:Int) old id q p).2.1,i64 (eo g (k:Int) old id q p).2.2]∧t=[]):=by
 have hgi:=hg.fit
 have hg1:=hg.1
 have hg2:=hg.2.1
 have hkn:=bM hx0
 have hsm:=o7 ha hx0
 obtain⟨fo,fnd,hff⟩:∃fo fnd,findF w.book.ak old=(fo,fnd):=⟨_,_,rfl⟩
 refine ai.aw (n:=93) (rs:=[.cell 12 58,.tmp 13,.tmp 14]) Tryz.func85 rfl Tryz.ntmps85 rfl ?_
 repeat'(first
 |(
  refine aa.ky hc1 ?_
  first
  |(refine aa.iN [0,1,2,3,5] ay rfl rfl ?_;simp only[go_sem,lM,List.length_map];refine aa.weaken ?_ (hc1 m);(try simp only[go_sem]);(repeat'(first|refine And.intro ?_ ?_|trivial|exact .inr (aR rfl)|exact .inr dN));done)
  |(have he:g.ao=[]:=Classical.byContradiction fun hne=>by
     have:=hbb (by simpa using hne)
     simp_all
    refine aa.lf 2 0 8 _ rfl rfl ?_
    simp only[go_sem]
    refine aa.weaken ?_ (hc1 0);(try simp only[go_sem,he,List.length_nil,List.map_nil,lz]);(repeat'(first|refine And.intro ?_ ?_|trivial|exact .inr (aR rfl)));done))
 |refine aa.aj fun K hK=>?_
 |(
  refine aa.here 1 5 5 rfl ?_
  first
  |(have h0:=hc1;clear h0;refine aa.bA ?_;refine an.at 5 2 rfl ?_;simp only[go_sem])
  |((fail_if_success(have h0:=hc1));refine aa.cutAt (ι:=Nat) [5,6,7,8] (fun(m:Nat)=>[]) (fun(m:Nat)=>[some [.agg [eB g.ao,bT g.aT,bl g.kill,i64 g.now,i64 g.pat]],some [.agg [.aQ,.aQ,bl false,i64 0,i64 0]],some [.agg [.mu 4 8 0 g.ao.length (g.ao.length+m),bT g.aT,bl g.kill,i64 g.now,i64 g.pat]],some [.agg [.aQ,.aQ,bl false,i64 0,i64 0]],some (g.ao.map aS++spare 8 m)]) (fun(m:Nat)=>[]) hK (fun m=>?_) (fun hc1=>?_)))
 |(refine Cut.mk ?_;simp only[go_sem])
 |(
  refine aa.here 4 28 5 rfl ?_
  have hxk:((g.ao.map aS++spare 8 m).set k (iJ w))[k]?=some (iJ w):=List.getElem?_set_self (by simp;omega)
  refine aa.region ?_;simp only[go_sem,ha])
 |(
  refine aa.here 5 33 13 rfl ?_
  refine aa.region ?_;simp only[go_sem,ha,hxk])
 |(
  refine aa.here 7 49 4 rfl ?_
  refine aa.lu 4 k 5 rfl hxk rfl ?_
  simp only[go_sem,ha]
  rw[oA hx0]
  refine aa.eX 5 0 (jd:=4) (k:=8) (n:=g.ao.length) (cap:=g.ao.length+m) _ (g.ao.map aS++spare 8 m) ay rfl rfl rfl (by simp[cJ]) (by rw[fh];exact fw _) ?_
  rw[fh]
  simp only[go_sem,ha]
  refine aa.region ?_;simp only[go_sem,ha])
 |(
  refine aa.here 10 59 4 rfl ?_
  refine aa.lu 4 k 5 rfl hxk rfl ?_
  simp only[go_sem,ha]
  rw[oA hx0]
  refine aa.eX 5 0 (jd:=4) (k:=8) (n:=g.ao.length) (cap:=g.ao.length+m) _ (g.ao.map aS++spare 8 m) ay rfl rfl rfl (by simp[cJ]) (by rw[fh];exact fw _) ?_
  rw[fh]
  simp only[go_sem,ha]
  refine aa.region ?_;simp only[go_sem,ha])
 |(
  refine aa.here 11 60 5 rfl ?_
  refine aa.region ?_;simp only[go_sem,ha,hxk])
 |(
  refine aa.here 12 65 4 rfl ?_
  refine aa.lu 4 k 5 rfl hxk rfl ?_
  simp only[go_sem,ha]
  rw[oA hx0]
  refine aa.eX 5 0 (jd:=4) (k:=8) (n:=g.ao.length) (cap:=g.ao.length+m) _ (g.ao.map aS++spare 8 m) ay rfl rfl rfl (by simp[cJ]) (by rw[fh];exact fw _) ?_
  rw[fh]
  simp only[go_sem,ha]
  refine aa.region ?_;simp only[go_sem,ha])
 |(
  refine aa.here 14 67 9 rfl ?_
  have hmb:=z8 (show bw (eZ fo id q p)=true by assumption)
  simp only[eZ] at hmb
  have hw:IntKind.i64.wrap (q-fo.done)=q-fo.done:=av ab ab
  refine aa.region ?_;simp only[go_sem,ha,hw])
 |(
  refine aa.here 17 80 5 rfl ?_
  refine aa.lu 4 k 5 rfl hxk rfl ?_
  simp only[go_sem,ha]
  rw[oA hx0]
  refine aa.eX 5 0 (jd:=4) (k:=8) (n:=g.ao.length) (cap:=g.ao.length+m) _ (g.ao.map aS++spare 8 m) ay rfl rfl rfl (by simp[cJ]) (by rw[fh];exact fw _) ?_
  rw[fh]
  simp only[go_sem,ha]
  refine aa.region ?_;simp only[go_sem,ha])
 |(
  refine aa.here 18 82 11 rfl ?_
  refine aa.gZ (.take 0 (.take 1 (.take 2 (.take 3 (.take 4 (.take 5 (.take 6 (.take 7 (.take 8 (.take 9 (.take 10 .done))))))))))) [[],[],[1],[1,2],[1,2,3],[],[5],[1,2,3,4,5,6],[0,1,2,3,4,5,6,7],[0,1,2,3,4,5,6,7,8],[0,1,2,3,4,5,6,7,8,9]] [] af af ?_;simp only[go_sem,ha,hxk])
 |(
  refine aa.here 19 92 4 rfl ?_
  refine aa.lu 4 k 5 rfl (List.getElem?_set_self (by simp;omega)) rfl ?_
  simp only[go_sem,ha]
  rw[Gq hkn]
  refine aa.eX 5 0 (jd:=4) (k:=8) (n:=g.ao.length) (cap:=g.ao.length+m) _ ((g.ao.set k (fg w (eZ fo id q p))).map aS++spare 8 m) ay rfl rfl rfl (by simp[cJ]) (by rw[fL];exact fw _) ?_
  rw[fL]
  simp only[go_sem,ha]
  refine aa.region ?_;simp only[go_sem,ha])
 |(
  refine aa.here 5 15 5 rfl ?_
  obtain⟨v,hx⟩:∃v,g.ao[i]?=some v:=⟨_,List.getElem?_eq_getElem ab⟩
  have hv:=hg.2.2 v (List.mem_of_getElem? hx)
  have hx2:(g.ao.map aS++spare 8 m)[i]?=some (aS v):=by rw[List.getElem?_append_left (by simpa using bM hx),List.getElem?_map,hx];rfl
  have hvw:i=k→v=w:=fun e=>by subst e;rw[hx] at hx0;exact Option.some.inj hx0
  (first|have hki:=lP hbk|(have hki:=lQ hbk;have hx3:((g.ao.map aS++spare 8 m).set k (iJ w))[i]?=some (aS v):=(List.getElem?_set_ne ab).trans hx2))
  refine aa.region ?_;simp only[go_sem])
 |(
  refine aa.here 7 29 11 rfl ?_
  (first|rw[cZ hx]|rw[gQ ab hx])
  refine aa.region ?_;simp only[go_sem])
 |(
  refine aa.here 8 39 11 rfl ?_
  (first|rw[cZ hx]|rw[gQ ab hx])
  refine aa.region ?_;simp only[go_sem])
 |(
  refine aa.here 10 57 2 rfl ?_
  (first|rw[cZ hx]|rw[gQ ab hx]|skip)
  (try(obtain rfl:=hvw hik1;subst hik1))
  refine aa.region ?_;simp only[go_sem])
 |(
  refine aa.here 9 49 9 rfl ?_
  (first|rw[cZ hx]|rw[gQ ab hx])
  rcases Nat.decEq i k with hik0|hik1<;>(first|(exfalso;omega)|(refine aa.region ?_;simp only[go_sem])))
 |(
  refine aa.here 11 58 5 rfl ?_
  (first|(exfalso;have hki:=lP hbk;omega)|(have hki:=lQ hbk;refine aa.region ?_;simp only[go_sem])))
 |(
  refine aa.here 3 5 4 rfl ?_
  refine aa.bA ?_
  refine an.iY eN ?_
  simp only[go_sem]
  refine an.at 3 1 rfl ?_
  simp only[go_sem]
  refine an.kj jE eN rfl rfl rfl (by simp;omega) (by simp;omega) ?_
  intro m
  simp only[go_sem]
  refine an.of ?_
  simp only[go_sem])
 |(refine aa.here 1 21 4 rfl ?_;refine aa.bA ?_;refine an.at 4 1 rfl ?_;simp only[go_sem,ha])
 |(refine aa.region ?_;simp only[go_sem,ha])
 |(refine hK _ ?_;clear hK K)
 |refine aa.block ?_
 |refine aa.cond rfl (fun c=>?_) (fun c=>?_)<;>first|exact Bool.noConfusion c|(try simp only[dD] at c)
 |refine aa.skip ?_
 |(refine aa.exit ?_;simp only[go_sem,ha])
 |(refine ah.one (ig g (k:Int) hgi) af rfl ?_;simp only[go_sem,ha])
 |(refine ah.one (rh w.book.ak old ab) af rfl ?_;simp only[hff];simp only[go_sem,ha])
 |(refine ah.one (mz (eZ fo id q p)) af rfl ?_;simp only[go_sem,ha])
 |(refine ah.one (B9 w id (hg.2.2 w (List.mem_of_getElem? hx0)).fit) af rfl ?_;simp only[go_sem,ha])
 |(refine ah.one (wZ g k w (lH fo id q p) hgi hx0 hsm) af rfl ?_;simp only[go_sem,ha])
 |(have h0:=hik1;clear h0;refine ah.of (mv v.ax hv.2.2.2) af rfl ?_;rintro r t ⟨rfl,rfl⟩;simp only[go_sem])
 |(refine ah.one (fq v.book.ak hv.1) af rfl ?_;simp only[go_sem])
 |(refine ah.one (fq v.ax hv.2.2.2) af rfl ?_;simp only[go_sem])
 |(refine ah.one (kh v.book.al hv.2.1) af rfl ?_;simp only[go_sem])
 |(refine ah.one (kg v.book.ids hv.2.2.1) af rfl ?_;simp only[go_sem])
 |(refine ah.one (lD g.aT hg2) af rfl ?_;simp only[go_sem])
 |(refine an.call (rs:=[.cell 2 58]) Tryz.func76 rfl Tryz.ntmps76 rfl af rfl rfl ?_;simp only[go_sem])
 |(refine an.call (rs:=[.tmp 2]) Tryz.func144 rfl Tryz.ntmps144 rfl af rfl rfl ?_;simp only[go_sem])
 |(refine aL.split (fun h=>?_) (fun h=>?_)<;>simp only[h,go_sem,ha]<;>(try simp only[dD] at h))
 |(refine aM.bG ae ?_;(try simp only[go_sem,ha]))
 |(refine aM.gj ae ?_;(try simp only[go_sem,ha]))
 |((with_reducible refine And.intro ?_ ?_);(focus(first|omega|(simp;done)));(try simp only[hb,go_sem,ha]))
 |(
  refine aa.here 3 13 1 rfl ?_
  refine aa.ck (ι:=Bool×Nat) [3,4,13,14,15,16,17,18,19,20,21,22,23,24,25,26,27,28,29,30,31,32,33,34,35,36,37,38,39,40,41,42,43,44,45,46,47,48,49,50,51,52,53,54,55,56,57] (fun⟨bk,i⟩=>[(12,i64 i)]) (fun⟨bk,i⟩=>[some [.agg [eB g.ao,bT g.aT,bl g.kill,i64 g.now,i64 g.pat]],some [.agg [.aQ,.aQ,bl false,i64 0,i64 0]],some [.agg [.mu 4 8 0 g.ao.length (g.ao.length+m),bT g.aT,bl g.kill,i64 g.now,i64 g.pat]],some [.agg [.aQ,.aQ,bl false,i64 0,i64 0]],some (bif bk then((g.ao.map aS++spare 8 m).set k (iJ w)) else(g.ao.map aS++spare 8 m))]) (fun⟨bk,i⟩=>(bif bk then[w.ax.length] else[])) (fun⟨bk,i⟩=>i≤g.ao.length∧bk=decide (k<i)) (fun⟨bk,i⟩=>g.ao.length-i) ((false,0)) ?_ ?_ ?_
  ·(try simp only[go_sem]);(repeat'(first|refine And.intro ?_ ?_|trivial|exact .inr (aR rfl)|exact .inr dN));done
  ·exact⟨by omega,by simp⟩
  rintro⟨bk,i⟩ ⟨h1,hbk⟩
  simp only[go_sem]
  cases bk<;>simp only[cond_true,cond_false])
 |(
  refine⟨(false,i+1),?_,?_,?_⟩
  ·(try simp only[go_sem]);(try rw[av ab ab]);(repeat'(first|refine And.intro ?_ ?_|exact .inr rfl|exact .inr (aR rfl)|exact .inr dN|exact .inr ⟨by simp,by simp⟩));done
  ·(exact⟨by omega,sh ab⟩)
  ·(try simp only[]);omega)
 |(
  refine⟨(true,i+1),?_,?_,?_⟩
  ·(try simp only[go_sem]);(try rw[av ab ab]);(repeat'(first|refine And.intro ?_ ?_|exact .inr rfl|trivial|exact .inr (aR rfl)|exact .inr (yi ay)));done
  ·(exact⟨by omega,qo ab⟩)
  ·(try simp only[]);omega)
 |(
  refine aa.ret ?_
  refine aB.is ?_;simp only[go_sem,aE,aI,aH,aG,aJ,aF]<;>(first
  |(rw[pb ha hx0 hff (.inl ae)];simp;done)
  |(rw[pb ha hx0 hff (.inr ae)];simp;done)
  |(rw[rO ha hx0 hff ae ae ae];simp;done)
  |(rw[qw ha hx0 hff ae ae ae (by simp[eM];assumption)];simp;done)
  |(rw[PZ ha hx0 hff ae ae ae (qQ ae) ae];simp;done)
  |(rw[Jc ha hx0 hff ae ae ae (qQ ae) ae];simp[cq];done)))
 |(refine aa.ret ?_;refine bR.ret rfl ?_;simp only[go_sem,ha])
 |(refine aa.ret ?_;simp only[gr,gv];refine bR.ret rfl ?_;simp only[go_sem,ha])
 |(refine an.of ?_;simp only[go_sem,ha])
 |((fail_if_success(have:=hbb));(with_reducible intro bb hbb))
 |refine aa.fin ae ?_)
theorem Ss(g:Gt)(n:Int)(old id:Bs)(q p:Int)(hg:bP g):ai E 85 [aO g,i64 n,str old,str id,i64 q,i64 p] (fun r t=>r= .aC [aO (eo g n old id q p).1,i64 (eo g n old id q p).2.1,i64 (eo g n old id q p).2.2]∧t=[]):=by
 cases ha:ba g n with
 |false=>rw[rk ha];exact M0 g n old id q p hg ha
 |true=>
  obtain⟨k,v,rfl,hx⟩:=fk ha
  exact Ku g k v old id q p hg hx ha
end Go.Proofs.YtajeeghgiilhiaaGreat
end
section
set_option linter.unusedSectionVars false
namespace Go.Stb
set_option linter.unusedSectionVars false
open Go.Sort
variable{α:Type}[Inhabited α]
def dV(a b n i:Nat)(d:Array α):Array α:=if i<n then dV a b n (i+1) (swp d (a+i) (b+i)) else d
termination_by n-i
def er(m i j:Nat)(d:Array α):Array α:=
 if h:i=0∨j=0 then d
 else if i=j then dV (m-i) m i 0 d
 else if j<i then er m (i-j) j (dV (m-i) m j 0 d)
 else er m i (j-i) (dV (m-i) (m+j-i) i 0 d)
termination_by i+j
decreasing_by all_goals omega
def dh(q:Nat→Bool)(i j:Nat):Nat:=if i<j then(if q ((i+j)/2)=true then dh q ((i+j)/2+1) j else dh q i ((i+j)/2)) else i
termination_by j-i
decreasing_by all_goals omega
def gf(k e:Nat)(d:Array α):Array α:=if k+1<e then gf (k+1) e (swp d k (k+1)) else d
termination_by e-k
def fx(i:Nat):Nat→Array α→Array α
 |0,d=>d
 |k+1,d=>if i<k+1 then fx i k (swp d (k+1) k) else d
section
variable(lt:α→α→Bool)
def dC(a m b:Nat)(d:Array α):Nat:=dh (fun c=>!lt d[(a+b)/2+m-1-c]! d[c]!) (if(a+b)/2<m then(a+b)/2+m-b else a) (if(a+b)/2<m then(a+b)/2 else m)
def fB(a m b:Nat)(d:Array α):Array α:=if dC lt a m b d<m∧m<(a+b)/2+m-dC lt a m b d then er m (m-dC lt a m b d) ((a+b)/2+m-dC lt a m b d-m) d else d
def cQ(a m b:Nat)(d:Array α):Array α:=
 if m-a=1 then gf a (dh (fun h=>lt d[h]! d[a]!) m b) d
 else if b-m=1 then fx (dh (fun h=>!lt d[m]! d[h]!) a m) m d
 else
  if h2:(a+b)/2<(a+b)/2+m-dC lt a m b d∧(a+b)/2+m-dC lt a m b d<b then
   cQ ((a+b)/2) ((a+b)/2+m-dC lt a m b d) b (if h1:a<dC lt a m b d∧dC lt a m b d<(a+b)/2 then cQ a (dC lt a m b d) ((a+b)/2) (fB lt a m b d) else fB lt a m b d)
  else if h1:a<dC lt a m b d∧dC lt a m b d<(a+b)/2 then cQ a (dC lt a m b d) ((a+b)/2) (fB lt a m b d) else fB lt a m b d
termination_by b-a
decreasing_by all_goals omega
def gd(n a b:Nat)(d:Array α):Array α:=if b≤n then gd n b (b+20) (insertionSort lt d a b) else insertionSort lt d a n
termination_by n+1-b
def eS(n s a b:Nat)(d:Array α):Array α:=
 if s=0 then d else if b≤n then eS n s b (b+2*s) (cQ lt a (a+s) b d) else if a+s<n then cQ lt a (a+s) n d else d
termination_by n+1-b
def jb(n s:Nat)(d:Array α):Array α:=if h:0<s∧s<n then jb n (s*2) (eS lt n s 0 (2*s) d) else d
termination_by n-s
def iP(d:Array α):Array α:=jb lt d.size 20 (gd lt d.size 0 20 d)
end
theorem sg(d:Array α){i j:Nat}(hi:i<d.size)(hj:j<d.size)(k:Nat):(swp d i j)[k]! =if k=i then d[j]! else if k=j then d[i]! else d[k]! :=by
 by_cases h1:k=i
 ·subst h1;rw[if_pos rfl]
  by_cases h2:k=j
  ·subst h2;exact swp_right d k k hj
  ·exact swp_left d k j hi h2
 ·rw[if_neg h1]
  by_cases h2:k=j
  ·subst h2;rw[if_pos rfl];exact swp_right d i k hj
  ·rw[if_neg h2];exact swp_other d i j k h1 h2
theorem qx{a b n x y:Nat}:∀(r i:Nat) (d:Array α),n-i=r→x≤a→a+n≤y→x≤b→b+n≤y→y≤d.size→PermIn x y d (dV a b n i d)
 |0,i,d,hr,_,_,_,_,_=>by rw[dV,if_neg ab];exact permIn_refl d x y
 |r+1,i,d,hr,h1,h2,h3,h4,h5=>by
  rw[dV,if_pos ab]
  have h:=swp_permIn d x y (a+i) (b+i) ab ab ab ab h5
  exact permIn_trans _ _ _ x y h (qx r (i+1) _ ab h1 h2 h3 h4 (by rw[size_swp];exact h5))
theorem kD(a b n:Nat):∀(r i:Nat) (d:Array α),n-i=r→(dV a b n i d).size=d.size
 |0,i,d,hr=>by rw[dV,if_neg ab]
 |r+1,i,d,hr=>by rw[dV,if_pos ab,kD a b n r (i+1) _ ab,size_swp]
theorem rY{a b n:Nat}(hab:a+n≤b):∀(r i:Nat) (d:Array α),n-i=r→b+n≤d.size→∀k,
 (dV a b n i d)[k]! =if a+i≤k∧k<a+n then d[k-a+b]! else if b+i≤k∧k<b+n then d[k-b+a]! else d[k]!
 |0,i,d,hr,hb,k=>by rw[dV,if_neg ab,if_neg ab,if_neg ab]
 |r+1,i,d,hr,hb,k=>by
  rw[dV,if_pos ab,rY hab r (i+1) _ ab (by rw[size_swp];exact hb)]
  have g:=sg d (i:=a+i) (j:=b+i) ab ab
  rw[g,g,g]
  by_cases h1:a+(i+1)≤k∧k<a+n
  ·rw[if_pos h1,if_neg ab,if_neg ab,if_pos ab]
  ·rw[if_neg h1]
   by_cases h2:b+(i+1)≤k∧k<b+n
   ·rw[if_pos h2,if_neg ab,if_neg ab,if_neg ab,if_pos ab]
   ·rw[if_neg h2]
    by_cases h3:k=a+i
    ·subst h3;rw[if_pos rfl,if_pos ab];congr 1;omega
    ·rw[if_neg h3]
     by_cases h4:k=b+i
     ·subst h4;rw[if_pos rfl,if_neg ab,if_pos ab];congr 1;omega
     ·rw[if_neg h4,if_neg ab,if_neg ab]
theorem wo{m x y:Nat}:∀(r i j:Nat) (d:Array α),i+j≤r→x+i≤m→m+j≤y→y≤d.size→PermIn x y d (er m i j d)
 |r,i,j,d,hr,h1,h2,h3=>by
  rw[er]
  split
  ·exact permIn_refl d x y
  ·rename_i h0
   split
   ·exact qx _ 0 d rfl ab ab ab ab h3
   ·split
    ·rename_i hn hj
     match r,hr with
     |r+1,hr=>exact permIn_trans _ _ _ x y (qx _ 0 d rfl ab ab ab ab h3) (wo r (i-j) j _ ab ab h2 (by rw[kD _ _ _ _ 0 d rfl];exact h3))
     |0,hr=>omega
    ·rename_i hn hj
     match r,hr with
     |r+1,hr=>exact permIn_trans _ _ _ x y (qx _ 0 d rfl ab ab ab ab h3) (wo r i (j-i) _ ab h1 ab (by rw[kD _ _ _ _ 0 d rfl];exact h3))
     |0,hr=>omega
theorem vy{m:Nat}:∀(r i j:Nat) (d:Array α),i+j≤r→i≤m→m+j≤d.size→0<i→0<j→∀k,
 (er m i j d)[k]! =if m-i≤k∧k<m-i+j then d[k+i]! else if m-i+j≤k∧k<m+j then d[k-j]! else d[k]!
 |r,i,j,d,hr,h1,h2,hi,hj,k=>by
  rw[er,dif_neg ab]
  by_cases e:i=j
  ·subst e
   rw[if_pos rfl,rY ab _ 0 d rfl ab]
   by_cases q1:m-i≤k∧k<m-i+i
   ·rw[if_pos ab,if_pos q1];congr 1;omega
   ·rw[if_neg ab,if_neg q1]
    by_cases q2:m-i+i≤k∧k<m+i
    ·rw[if_pos ab,if_pos q2];congr 1;omega
    ·rw[if_neg ab,if_neg q2]
  ·rw[if_neg e]
   by_cases l:j<i
   ·rw[if_pos l]
    match r,hr with
    |0,hr=>omega
    |r+1,hr=>
     rw[vy r (i-j) j _ ab ab (by rw[kD _ _ _ _ 0 d rfl];exact h2) ab hj]
     simp only[rY (a:=m-i) (b:=m) (n:=j) ab _ 0 d rfl ab]
     by_cases q1:m-i≤k∧k<m-i+j
     ·rw[if_neg ab,if_neg ab,if_pos ab,if_pos q1];congr 1;omega
     ·by_cases q2:m-i+j≤k∧k<m+j
      ·rw[if_neg q1,if_pos q2]
       by_cases q3:m-(i-j)≤k∧k<m-(i-j)+j
       ·rw[if_pos q3]
        by_cases q4:k+(i-j)<m
        ·omega
        ·rw[if_neg ab,if_pos ab];congr 1;omega
       ·rw[if_neg q3,if_pos ab,if_neg ab,if_neg ab]
      ·rw[if_neg q1,if_neg q2,if_neg ab,if_neg ab,if_neg ab,if_neg ab]
   ·rw[if_neg l]
    match r,hr with
    |0,hr=>omega
    |r+1,hr=>
     rw[vy r i (j-i) _ ab ab (by rw[kD _ _ _ _ 0 d rfl];omega) hi ab]
     simp only[rY (a:=m-i) (b:=m+j-i) (n:=i) ab _ 0 d rfl ab]
     by_cases q1:m-i≤k∧k<m-i+j
     ·rw[if_pos q1]
      by_cases q3:k<m-i+(j-i)
      ·rw[if_pos ab,if_neg ab,if_neg ab]
      ·by_cases q5:k<m
       ·rw[if_neg ab,if_pos ab]
        by_cases q4:m-i≤k-(j-i)∧k-(j-i)<m-i+i
        ·rw[if_pos ab];congr 1;omega
        ·omega
       ·rw[if_neg ab,if_pos ab,if_pos ab];congr 1;omega
     ·by_cases q2:m-i+j≤k∧k<m+j
      ·rw[if_neg q1,if_pos q2,if_neg ab,if_neg ab,if_neg ab,if_pos ab];congr 1;omega
      ·rw[if_neg q1,if_neg q2,if_neg ab,if_neg ab,if_neg ab,if_neg ab]
theorem pq{q:Nat→Bool}{lo hi:Nat}(mono:∀x y,lo≤x→x≤y→y<hi→q y=true→q x=true):∀(r i j:Nat),j-i≤r→lo≤i→i≤j→j≤hi→(∀x,lo≤x→x<i→q x=true)→(∀x,j≤x→x<hi→q x=false)→
 i≤dh q i j∧dh q i j≤j∧(∀x,lo≤x→x<dh q i j→q x=true)∧(∀x,dh q i j≤x→x<hi→q x=false)
 |r,i,j,hr,h1,h2,h3,h4,h5=>by
  rw[dh]
  by_cases hij:i<j
  ·rw[if_pos hij]
   match r,hr with
   |0,hr=>omega
   |r+1,hr=>
    by_cases hq:q ((i+j)/2)=true
    ·rw[if_pos hq]
     have:=pq mono r ((i+j)/2+1) j ab ab ab h3 (fun x a b=>mono x _ a ab ab hq) h5
     exact⟨by omega,this.2.1,this.2.2⟩
    ·rw[if_neg hq]
     have:=pq mono r i ((i+j)/2) ab h1 ab ab h4 (fun x a b=>by
      cases hx:q x with
      |false=>rfl
      |true=>exact absurd (mono _ x ab a b hx) hq)
     exact⟨this.1,by omega,this.2.2⟩
  ·rw[if_neg hij]
   exact⟨Nat.le_refl _,h2,h4,fun x a b=>h5 x ab b⟩
theorem yp{x y e:Nat}:∀(r k:Nat) (d:Array α),e-k≤r→x≤k→e≤y→y≤d.size→PermIn x y d (gf k e d)
 |r,k,d,hr,h1,h2,h3=>by
  rw[gf]
  split
  ·match r,hr with
   |0,hr=>omega
   |r+1,hr=>exact permIn_trans _ _ _ x y (swp_permIn d x y k (k+1) h1 ab ab ab h3) (yp r (k+1) _ ab ab h2 (by rw[size_swp];exact h3))
  ·exact permIn_refl d x y
theorem yD{e:Nat}:∀(r k:Nat) (d:Array α),e-k≤r→e≤d.size→∀x,(gf k e d)[x]! =if k≤x∧x+1<e then d[x+1]! else if k≤x∧x+1=e then d[k]! else d[x]!
 |r,k,d,hr,h,x=>by
  rw[gf]
  by_cases hk:k+1<e
  ·rw[if_pos hk]
   match r,hr with
   |0,hr=>omega
   |r+1,hr=>
    rw[yD r (k+1) _ ab (by rw[size_swp];exact h)]
    simp only[sg d (i:=k) (j:=k+1) ab ab]
    by_cases q1:k+1≤x∧x+1<e
    ·rw[if_pos q1,if_neg ab,if_neg ab,if_pos ab]
    ·rw[if_neg q1]
     by_cases q2:k+1≤x∧x+1=e
     ·rw[if_pos q2,if_neg ab,if_pos trivial,if_neg ab,if_pos ab]
     ·rw[if_neg q2]
      by_cases q3:x=k
      ·subst q3;rw[if_pos rfl,if_pos ab]
      ·rw[if_neg q3,if_neg ab,if_neg ab,if_neg ab]
  ·rw[if_neg hk,if_neg ab]
   by_cases q:k≤x∧x+1=e
   ·rw[if_pos q];congr 1;omega
   ·rw[if_neg q]
theorem x9{x y i:Nat}:∀(k:Nat) (d:Array α),x≤i→k<y→y≤d.size→PermIn x y d (fx i k d)
 |0,d,_,_,_=>permIn_refl d x y
 |k+1,d,h1,h2,h3=>by
  unfold fx
  split
  ·exact permIn_trans _ _ _ x y (swp_permIn d x y (k+1) k ab h2 ab ab h3) (x9 k _ h1 ab (by rw[size_swp];exact h3))
  ·exact permIn_refl d x y
theorem zo{i:Nat}:∀(k:Nat) (d:Array α),k<d.size→∀x,(fx i k d)[x]! =if i<x∧x≤k then d[x-1]! else if x=i∧i≤k then d[k]! else d[x]!
 |0,d,h,x=>by
  unfold fx
  rw[if_neg ab]
  by_cases q:x=i∧i≤0
  ·rw[if_pos q];congr 1;omega
  ·rw[if_neg q]
 |k+1,d,h,x=>by
  unfold fx
  by_cases hk:i<k+1
  ·rw[if_pos hk,zo k _ (by rw[size_swp];omega)]
   simp only[sg d (i:=k+1) (j:=k) ab ab]
   by_cases q1:i<x∧x≤k
   ·rw[if_pos q1,if_neg ab,if_neg ab,if_pos ab]
   ·rw[if_neg q1]
    by_cases q2:x=i∧i≤k
    ·rw[if_pos q2,if_neg ab,if_pos trivial,if_neg ab,if_pos ab]
    ·rw[if_neg q2]
     by_cases q3:x=k+1
     ·subst q3;rw[if_pos rfl,if_pos ab];rfl
     ·rw[if_neg q3,if_neg ab,if_neg ab,if_neg ab]
  ·rw[if_neg hk,if_neg ab]
   by_cases q:x=i∧i≤k+1
   ·rw[if_pos q];congr 1;omega
   ·rw[if_neg q]
section
variable{lt:α→α→Bool}
theorem asym(h:SWO lt){x y:α}(hxy:lt x y=true):lt y x=false:=by
 cases hyx:lt y x with
 |false=>rfl
 |true=>have:=h.trans x y x hxy hyx;rw[h.irrefl] at this;cases this
theorem nE{a b:Nat}{d d':Array α}(hs:SortedIn lt a b d)(h:∀i,a≤i→i<b→d'[i]! =d[i]!):SortedIn lt a b d':=fun i j hi hij hj=>by
 rw[h i hi ab,h j ab hj]
 exact hs i j hi hij hj
theorem DH(hS:SWO lt){a b:Nat}{d:Array α}(hb:b≤d.size)(hab:a+1<b)(h2:SortedIn lt (a+1) b d):
 PermIn a b d (gf a (dh (fun h=>lt d[h]! d[a]!) (a+1) b) d)∧SortedIn lt a b (gf a (dh (fun h=>lt d[h]! d[a]!) (a+1) b) d):=by
 obtain⟨b1,b2,b3,b4⟩:=pq (q:=fun h=>lt d[h]! d[a]!) (lo:=a+1) (hi:=b) (fun x y h1 hxy hy hq=>by
  cases hx:lt d[x]! d[a]! with
  |true=>rfl
  |false=>
   rcases Nat.lt_or_ge x y with h|h
   ·have:=hS.ntrans _ _ _ (h2 x y h1 h hy) hx
    simp only[this] at hq;cases hq
   ·have:x=y:=by omega
    subst this;simp only[hx] at hq;cases hq) _ (a+1) b (Nat.le_refl _) (Nat.le_refl _) ab (Nat.le_refl _) (fun x h1 h2=>by omega) (fun x h1 h2=>by omega)
 generalize dh (fun h=>lt d[h]! d[a]!) (a+1) b=i at *
 refine⟨yp _ a d (Nat.le_refl _) (Nat.le_refl _) b2 hb,fun p q hp hpq hq=>?_⟩
 simp only[yD (e:=i) _ a d (Nat.le_refl _) ab]
 by_cases c1:q+1<i
 ·rw[if_pos ab,if_pos ab];exact h2 _ _ ab ab ab
 ·by_cases c2:q+1=i
  ·rw[if_neg ab,if_pos ab,if_pos ab]
   exact asym hS (b3 (p+1) ab ab)
  ·rw[if_neg ab,if_neg ab]
   by_cases c3:p+1<i
   ·rw[if_pos ab];exact h2 _ _ ab ab ab
   ·rw[if_neg ab]
    by_cases c4:p+1=i
    ·rw[if_pos ab];exact b4 q ab hq
    ·rw[if_neg ab];exact h2 _ _ ab ab ab
theorem Ej(hS:SWO lt){a m:Nat}{d:Array α}(hb:m+1≤d.size)(hab:a<m)(h2:SortedIn lt a m d):
 PermIn a (m+1) d (fx (dh (fun h=>!lt d[m]! d[h]!) a m) m d)∧SortedIn lt a (m+1) (fx (dh (fun h=>!lt d[m]! d[h]!) a m) m d):=by
 obtain⟨b1,b2,b3,b4⟩:=pq (q:=fun h=>!lt d[m]! d[h]!) (lo:=a) (hi:=m) (fun x y h1 hxy hy hq=>by
  simp only[Bool.not_eq_true'] at hq ⊢
  rcases Nat.lt_or_ge x y with h|h
  ·exact hS.ntrans _ _ _ hq (h2 x y h1 h hy)
  ·have:x=y:=by omega
   subst this;exact hq) _ a m (Nat.le_refl _) (Nat.le_refl _) ab (Nat.le_refl _) (fun x h1 h2=>by omega) (fun x h1 h2=>by omega)
 generalize dh (fun h=>!lt d[m]! d[h]!) a m=i at *
 simp only[Bool.not_eq_true',Bool.not_eq_false'] at b3 b4
 refine⟨x9 m d b1 ab hb,fun p q hp hpq hq=>?_⟩
 simp only[zo (i:=i) m d ab]
 by_cases c1:q<i
 ·rw[if_neg ab,if_neg ab,if_neg ab,if_neg ab];exact h2 _ _ hp hpq ab
 ·by_cases c2:q=i
  ·rw[if_neg ab,if_pos ab,if_neg ab,if_neg ab];exact b3 p hp ab
  ·rw[if_pos ab]
   by_cases c3:p<i
   ·rw[if_neg ab,if_neg ab];exact h2 _ _ hp ab ab
   ·by_cases c4:p=i
    ·rw[if_neg ab,if_pos ab];exact asym hS (b4 (q-1) ab ab)
    ·rw[if_pos ab];exact h2 _ _ ab ab ab
theorem WH(hS:SWO lt){a m b:Nat}{d:Array α}(ham:a<m)(hmb:m<b)(h1:SortedIn lt a m d)(h2:SortedIn lt m b d):
 a≤dC lt a m b d∧dC lt a m b d≤m∧dC lt a m b d≤(a+b)/2∧(a+b)/2+m-dC lt a m b d≤b∧
 (∀i j,a≤i→i<dC lt a m b d→(a+b)/2+m-dC lt a m b d≤j→j<b→lt d[j]! d[i]! =false)∧
 (∀i j,m≤i→i<(a+b)/2+m-dC lt a m b d→dC lt a m b d≤j→j<m→lt d[j]! d[i]! =false):=by
 have key:∀mid s0 r0,mid=(a+b)/2→a≤s0→s0≤r0→r0≤m→r0≤mid→mid+m≤b+s0→(s0=a∨mid+m=b+s0)→(r0=m∨r0=mid)→
  ∀s,s=dh (fun c=>!lt d[mid+m-1-c]! d[c]!) s0 r0→a≤s∧s≤m∧s≤mid∧mid+m-s≤b∧
  (∀i j,a≤i→i<s→mid+m-s≤j→j<b→lt d[j]! d[i]! =false)∧(∀i j,m≤i→i<mid+m-s→s≤j→j<m→lt d[j]! d[i]! =false):=by
  intro mid s0 r0 hmid e1 e2 e3 e4 e5 e6 e7 s hs
  obtain⟨b1,b2,b3,b4⟩:=pq (q:=fun c=>!lt d[mid+m-1-c]! d[c]!) (lo:=s0) (hi:=r0) (fun x y hx hxy hy hq=>by
   simp only[Bool.not_eq_true'] at hq ⊢
   rcases Nat.lt_or_ge x y with h|h
   ·have q1:=h1 x y ab h ab
    have q2:=h2 (mid+m-1-y) (mid+m-1-x) ab ab ab
    exact hS.ntrans _ _ _ (hS.ntrans _ _ _ q2 hq) q1
   ·have:x=y:=by omega
    subst this;exact hq) _ s0 r0 (Nat.le_refl _) (Nat.le_refl _) e2 (Nat.le_refl _) (fun x h1 h2=>by omega) (fun x h1 h2=>by omega)
  rw[←hs] at b1 b2 b3 b4
  simp only[Bool.not_eq_true',Bool.not_eq_false'] at b3 b4
  refine⟨by omega,by omega,by omega,by omega,fun i j hi his hj hjb=>?_,fun i j hi hie hj hjm=>?_⟩
  ·have q:=b3 (s-1) ab ab
   rw[show mid+m-1-(s-1)=mid+m-s by omega] at q
   have q1:lt d[s-1]! d[i]! =false:=by
    rcases Nat.lt_or_ge i (s-1) with h|h
    ·exact h1 i (s-1) hi h ab
    ·have:i=s-1:=by omega
     subst this;exact hS.irrefl _
   have q2:lt d[j]! d[mid+m-s]! =false:=by
    rcases Nat.lt_or_ge (mid+m-s) j with h|h
    ·exact h2 _ j ab h hjb
    ·have:j=mid+m-s:=by omega
     subst this;exact hS.irrefl _
   exact hS.ntrans _ _ _ q2 (hS.ntrans _ _ _ q q1)
  ·have q:=asym hS (b4 s (Nat.le_refl _) ab)
   rw[show mid+m-1-s=mid+m-s-1 by omega] at q
   have q1:lt d[mid+m-s-1]! d[i]! =false:=by
    rcases Nat.lt_or_ge i (mid+m-s-1) with h|h
    ·exact h2 i _ hi h ab
    ·have:i=mid+m-s-1:=by omega
     subst this;exact hS.irrefl _
   have q2:lt d[j]! d[s]! =false:=by
    rcases Nat.lt_or_ge s j with h|h
    ·exact h1 s j ab h hjm
    ·have:j=s:=by omega
     subst this;exact hS.irrefl _
   exact hS.ntrans _ _ _ q2 (hS.ntrans _ _ _ q q1)
 unfold dC
 by_cases c:(a+b)/2<m
 ·simp only[if_pos c]
  exact key _ _ _ rfl ab ab ab ab ab (.inr ab) (.inr rfl) _ rfl
 ·simp only[if_neg c]
  exact key _ _ _ rfl ab ab ab ab ab (.inl rfl) (.inl rfl) _ rfl
theorem OQ{a m b:Nat}{d:Array α}(hb:b≤d.size){s mid:Nat}(hs:s=dC lt a m b d)(hmid:mid=(a+b)/2)(h1:a≤s)(h2:s≤m)(h3:s≤mid)(h4:mid+m-s≤b):
 PermIn a b d (fB lt a m b d)∧∀k,(fB lt a m b d)[k]! =if s≤k∧k<mid then d[k+(m-s)]! else if mid≤k∧k<mid+m-s then d[k-(mid-s)]! else d[k]! :=by
 unfold fB
 rw[←hs,←hmid]
 by_cases c:s<m∧m<mid+m-s
 ·rw[if_pos c]
  refine⟨wo _ _ _ d (Nat.le_refl _) ab ab hb,fun k=>?_⟩
  rw[vy _ _ _ d (Nat.le_refl _) ab ab ab ab]
  by_cases q1:s≤k∧k<mid
  ·rw[if_pos ab,if_pos q1]
  ·rw[if_neg ab,if_neg q1]
   by_cases q2:mid≤k∧k<mid+m-s
   ·rw[if_pos ab,if_pos q2];congr 1;omega
   ·rw[if_neg ab,if_neg q2]
 ·rw[if_neg c]
  refine⟨permIn_refl d a b,fun k=>?_⟩
  by_cases q1:s≤k∧k<mid
  ·rw[if_pos q1];congr 1;omega
  ·rw[if_neg q1]
   by_cases q2:mid≤k∧k<mid+m-s
   ·rw[if_pos q2];congr 1;omega
   ·rw[if_neg q2]
theorem sa(hS:SWO lt):∀(r a m b:Nat) (d:Array α),b-a≤r→a<m→m<b→b≤d.size→SortedIn lt a m d→SortedIn lt m b d→PermIn a b d (cQ lt a m b d)∧SortedIn lt a b (cQ lt a m b d)
 |r,a,m,b,d,hr,ham,hmb,hb,h1,h2=>by
  rw[cQ]
  by_cases c1:m-a=1
  ·rw[if_pos c1]
   obtain rfl:m=a+1:=by omega
   exact DH hS hb ab h2
  ·rw[if_neg c1]
   by_cases c2:b-m=1
   ·rw[if_pos c2]
    obtain rfl:b=m+1:=by omega
    exact Ej hS hb ham h1
   ·rw[if_neg c2]
    obtain⟨s1,s2,s3,s4,x1,x2⟩:=WH hS ham hmb h1 h2
    obtain⟨s,hs⟩:∃s,s=dC lt a m b d:=⟨_,rfl⟩
    obtain⟨mid,hmid⟩:∃mid,mid=(a+b)/2:=⟨_,rfl⟩
    rw[←hs] at s1 s2 s3 s4 x1 x2
    rw[←hmid] at s3 s4 x1 x2
    obtain⟨p1,g1⟩:=OQ hb hs hmid s1 s2 s3 s4
    rw[←hs,←hmid]
    generalize fB lt a m b d=d1 at p1 g1 ⊢
    have z1:d1.size=d.size:=p1.1
    have L1:SortedIn lt a s d1:=nE (fun i j x y z=>h1 i j x y ab) fun i x y=>by rw[g1,if_neg ab,if_neg ab]
    have L2:SortedIn lt s mid d1:=fun i j x y z=>by
     rw[g1,g1,if_pos ab,if_pos ab];exact h2 _ _ ab ab ab
    have L3:SortedIn lt mid (mid+m-s) d1:=fun i j x y z=>by
     rw[g1,g1,if_neg ab,if_pos ab,if_neg ab,if_pos ab];exact h1 _ _ ab ab ab
    have L4:SortedIn lt (mid+m-s) b d1:=fun i j x y z=>by
     rw[g1,g1,if_neg ab,if_neg ab,if_neg ab,if_neg ab];exact h2 _ _ ab y z
    have X:∀i j,a≤i→i<mid→mid≤j→j<b→lt d1[j]! d1[i]! =false:=fun i j q1 q2 q3 q4=>by
     rw[g1,g1]
     by_cases u:s≤i∧i<mid
     ·rw[if_neg ab,if_pos u]
      by_cases v:mid≤j∧j<mid+m-s
      ·rw[if_pos v];exact x2 _ _ ab ab ab ab
      ·rw[if_neg v];exact h2 _ _ ab ab q4
     ·rw[if_neg ab,if_neg u,if_neg (by omega:¬(mid≤i∧i<mid+m-s))]
      by_cases v:mid≤j∧j<mid+m-s
      ·rw[if_pos v];exact h1 _ _ q1 ab ab
      ·rw[if_neg v];exact x1 _ _ q1 ab ab q4
    have hm2:a<mid:=by omega
    have hm3:mid<b:=by omega
    have D2:PermIn a mid d1 (if h1:a<s∧s<mid then cQ lt a s mid d1 else d1)∧SortedIn lt a mid (if h1:a<s∧s<mid then cQ lt a s mid d1 else d1):=by
     by_cases c:a<s∧s<mid
     ·rw[dif_pos c]
      match r,hr with
      |0,hr=>omega
      |r+1,hr=>exact sa hS r a s mid d1 ab c.1 c.2 ab L1 L2
     ·rw[dif_neg c]
      refine⟨permIn_refl d1 a mid,?_⟩
      rcases Nat.lt_or_ge a s with h|h
      ·have:s=mid:=by omega
       subst this;exact L1
      ·have:s=a:=by omega
       subst this;exact L2
    generalize (if h1:a<s∧s<mid then cQ lt a s mid d1 else d1)=d2 at D2 ⊢
    obtain⟨p2,o2⟩:=D2
    have z2:d2.size=d1.size:=p2.1
    have M3:SortedIn lt mid (mid+m-s) d2:=nE L3 fun i x y=>p2.2.1 i (.inr x)
    have M4:SortedIn lt (mid+m-s) b d2:=nE L4 fun i x y=>p2.2.1 i (.inr ab)
    have D3:PermIn mid b d2 (if h2:mid<mid+m-s∧mid+m-s<b then cQ lt mid (mid+m-s) b d2 else d2)∧SortedIn lt mid b (if h2:mid<mid+m-s∧mid+m-s<b then cQ lt mid (mid+m-s) b d2 else d2):=by
     by_cases c:mid<mid+m-s∧mid+m-s<b
     ·rw[dif_pos c]
      match r,hr with
      |0,hr=>omega
      |r+1,hr=>exact sa hS r mid (mid+m-s) b d2 ab c.1 c.2 ab M3 M4
     ·rw[dif_neg c]
      refine⟨permIn_refl d2 mid b,?_⟩
      rcases Nat.lt_or_ge mid (mid+m-s) with h|h
      ·have:mid+m-s=b:=by omega
       rw[this] at M3;exact M3
      ·have:mid+m-s=mid:=by omega
       rw[this] at M4;exact M4
    show PermIn a b d (if h2:mid<mid+m-s∧mid+m-s<b then cQ lt mid (mid+m-s) b d2 else d2)∧SortedIn lt a b (if h2:mid<mid+m-s∧mid+m-s<b then cQ lt mid (mid+m-s) b d2 else d2)
    generalize (if h2:mid<mid+m-s∧mid+m-s<b then cQ lt mid (mid+m-s) b d2 else d2)=d3 at D3 ⊢
    obtain⟨p3,o3⟩:=D3
    refine⟨permIn_trans _ _ _ a b p1 (permIn_trans _ _ _ a b (permIn_mono d1 d2 a mid a b (Nat.le_refl _) ab ab p2) (permIn_mono d2 d3 mid b a b ab (Nat.le_refl _) ab p3)),fun i j q1 q2 q3=>?_⟩
    rcases Nat.lt_or_ge j mid with c|c
    ·rw[p3.2.1 i (.inl ab),p3.2.1 j (.inl c)];exact o2 i j q1 q2 c
    ·rcases Nat.lt_or_ge i mid with c'|c'
     ·rw[p3.2.1 i (.inl c')]
      refine permIn_all d2 d3 mid b (fun y=>lt y d2[i]! =false) ab p3 (fun k k1 k2=>?_) j c q3
      rw[p2.2.1 k (.inr k1)]
      exact permIn_all d1 d2 a mid (fun x=>lt d1[k]! x=false) ab p2 (fun t t1 t2=>X t k t1 t2 k1 k2) i q1 c'
     ·exact o3 i j c' q2 q3
inductive Ch(lt:α→α→Bool)(s n:Nat)(d:Array α):Nat→Prop
 |done {a:Nat} (h:n≤a):Ch lt s n d a
 |step {a:Nat} (h:SortedIn lt a (min (a+s) n) d) (hn:Ch lt s n d (a+s)):Ch lt s n d a
theorem Ch.congr{s n a:Nat}{d d':Array α}(h:Ch lt s n d a)(e:∀i,a≤i→d'[i]! =d[i]!):Ch lt s n d' a:=by
 induction h with
 |done h=>exact .done h
 |step h _ ih=>exact .step (nE h fun i x y=>e i x) (ih fun i hi=>e i ab)
theorem Ch.head{s n a:Nat}{d:Array α}(h:Ch lt s n d a):SortedIn lt a (min (a+s) n) d:=by
 cases h with
 |done h=>exact fun i j x y z=>by omega
 |step h _=>exact h
theorem Ch.tail{s n a:Nat}{d:Array α}(h:Ch lt s n d a):Ch lt s n d (a+s):=by
 cases h with
 |done h=>exact .done ab
 |step _ h=>exact h
theorem wI(hS:SWO lt){n:Nat}:∀(r a:Nat) (d:Array α),n-a≤r→a≤n→n≤d.size→PermIn a n d (gd lt n a (a+20) d)∧Ch lt 20 n (gd lt n a (a+20) d) a
 |r,a,d,hr,ha,hn=>by
  rw[gd]
  by_cases c:a+20≤n
  ·rw[if_pos c]
   obtain⟨p1,o1⟩:=insertionSort_holds (lt:=lt) hS d a (a+20) ab ab
   generalize insertionSort lt d a (a+20)=d1 at p1 o1 ⊢
   have z1:d1.size=d.size:=p1.1
   match r,hr with
   |0,hr=>omega
   |r+1,hr=>
    obtain⟨p2,o2⟩:=wI hS r (a+20) d1 ab c ab
    generalize gd lt n (a+20) (a+20+20) d1=d2 at p2 o2 ⊢
    refine⟨permIn_trans _ _ _ a n (permIn_mono d d1 a (a+20) a n (Nat.le_refl _) c hn p1) (permIn_mono d1 d2 (a+20) n a n ab (Nat.le_refl _) ab p2),.step (nE (by rw[Nat.min_eq_left c];exact o1) fun i x y=>p2.2.1 i (.inl ab)) o2⟩
  ·rw[if_neg c]
   obtain⟨p1,o1⟩:=insertionSort_holds (lt:=lt) hS d a n ha hn
   exact⟨p1,.step (by rw[Nat.min_eq_right ab];exact o1) (.done ab)⟩
theorem BH(hS:SWO lt){n s:Nat}(hs:0<s):∀(r a:Nat) (d:Array α),n-a≤r→a≤n→n≤d.size→Ch lt s n d a→PermIn a n d (eS lt n s a (a+2*s) d)∧Ch lt (2*s) n (eS lt n s a (a+2*s) d) a
 |r,a,d,hr,ha,hn,hc=>by
  rw[eS,if_neg ab]
  by_cases c:a+2*s≤n
  ·rw[if_pos c]
   have q1:=hc.head;rw[Nat.min_eq_left ab] at q1
   have q2:=hc.tail.head;rw[Nat.min_eq_left ab,show a+s+s=a+2*s by omega] at q2
   have q3:=hc.tail.tail;rw[show a+s+s=a+2*s by omega] at q3
   obtain⟨p1,o1⟩:=sa hS _ a (a+s) (a+2*s) d (Nat.le_refl _) ab ab ab q1 q2
   generalize cQ lt a (a+s) (a+2*s) d=d1 at p1 o1 ⊢
   have z1:d1.size=d.size:=p1.1
   match r,hr with
   |0,hr=>omega
   |r+1,hr=>
    obtain⟨p2,o2⟩:=BH hS hs r (a+2*s) d1 ab c ab (q3.congr fun i hi=>p1.2.1 i (.inr hi))
    generalize eS lt n s (a+2*s) (a+2*s+2*s) d1=d2 at p2 o2 ⊢
    exact⟨permIn_trans _ _ _ a n (permIn_mono d d1 a (a+2*s) a n (Nat.le_refl _) c hn p1) (permIn_mono d1 d2 (a+2*s) n a n ab (Nat.le_refl _) ab p2),.step (nE (by rw[Nat.min_eq_left c];exact o1) fun i x y=>p2.2.1 i (.inl ab)) o2⟩
  ·rw[if_neg c]
   by_cases c2:a+s<n
   ·rw[if_pos c2]
    have q1:=hc.head;rw[Nat.min_eq_left ab] at q1
    have q2:=hc.tail.head;rw[Nat.min_eq_right ab] at q2
    obtain⟨p1,o1⟩:=sa hS _ a (a+s) n d (Nat.le_refl _) ab ab ab q1 q2
    exact⟨p1,.step (by rw[Nat.min_eq_right ab];exact o1) (.done ab)⟩
   ·rw[if_neg c2]
    refine⟨permIn_refl d a n,.step ?_ (.done ab)⟩
    have q1:=hc.head;rw[Nat.min_eq_right ab] at q1
    rw[Nat.min_eq_right ab];exact q1
theorem Cl(hS:SWO lt){n:Nat}:∀(r s:Nat) (d:Array α),n-s≤r→0<s→n≤d.size→Ch lt s n d 0→PermIn 0 n d (jb lt n s d)∧SortedIn lt 0 n (jb lt n s d)
 |r,s,d,hr,hs,hn,hc=>by
  rw[jb]
  by_cases c:0<s∧s<n
  ·rw[dif_pos c]
   have h:=BH hS hs _ 0 d (Nat.le_refl _) (Nat.zero_le _) hn hc
   rw[Nat.zero_add] at h
   obtain⟨p1,o1⟩:=h
   generalize eS lt n s 0 (2*s) d=d1 at p1 o1 ⊢
   match r,hr with
   |0,hr=>omega
   |r+1,hr=>
    obtain⟨p2,o2⟩:=Cl (n:=n) hS r (s*2) d1 ab ab (by rw[p1.1];exact hn) (by rw[Nat.mul_comm];exact o1)
    exact⟨permIn_trans _ _ _ 0 n p1 p2,o2⟩
  ·rw[dif_neg c]
   have q1:=hc.head;rw[Nat.min_eq_right ab] at q1
   exact⟨permIn_refl d 0 n,q1⟩
theorem xY(hS:SWO lt)(d:Array α):PermIn 0 d.size d (iP lt d)∧SortedIn lt 0 d.size (iP lt d):=by
 unfold iP
 have h:=wI hS _ 0 d (Nat.le_refl _) (Nat.zero_le _) (Nat.le_refl _)
 rw[Nat.zero_add] at h
 obtain⟨p1,o1⟩:=h
 generalize gd lt d.size 0 20 d=d1 at p1 o1 ⊢
 obtain⟨p2,o2⟩:=Cl hS _ 20 d1 (Nat.le_refl _) ab (by rw[p1.1];exact Nat.le_refl _) o1
 exact⟨permIn_trans _ _ _ 0 d.size p1 p2,o2⟩
end
end Go.Stb
end
section
namespace Go.Bk
open Go Go.Abs
abbrev Nm:=Bs×Bs
def aN(p:Po):Nm:=(p.acc,p.sym)
def db(a b:Nm):Bool:=decide (eA a b<0)
def aP(a b:Po):Bool:=db (aN a) (aN b)
instance:Inhabited Po:=⟨⟨[],[],0,0,false⟩⟩
theorem Bg{a b:Bs}:gC a b<0↔a<b:=by
 unfold gC;split
 ·simp[*]
 ·split<;>simp_all
theorem ql{a b:Bs}:gC a b=0↔a=b:=by
 unfold gC;split
 ·rename_i h
  constructor
  ·intro e;exact absurd e ay
  ·rintro rfl;exact absurd h (List.lt_irrefl a)
 ·split<;>simp_all
theorem qa{a b:Nm}:db a b=true↔a.1<b.1∨a.1=b.1∧a.2<b.2:=by
 unfold db eA
 rw[decide_eq_true_eq]
 split
 ·rename_i h
  rw[Bg]
  constructor
  ·exact .inl
  ·rintro(h2|⟨h2,_⟩)
   ·exact h2
   ·exact absurd (ql.2 h2) h
 ·rename_i h
  have h:a.1=b.1:=ql.1 (by simpa using h)
  rw[Bg,h]
  constructor
  ·intro h2;exact .inr ⟨rfl,h2⟩
  ·rintro(h2|⟨_,h2⟩)
   ·exact absurd h2 (List.lt_irrefl _)
   ·exact h2
theorem jV(a:Nm):db a a=false:=by
 cases h:db a a with
 |false=>rfl
 |true=>rcases qa.1 h with h|⟨_,h⟩<;>exact absurd h (List.lt_irrefl _)
theorem lE{a b c:Nm}(h1:db a b=true)(h2:db b c=true):db a c=true:=by
 rw[qa] at *
 rcases h1 with h1|⟨e1,h1⟩<;>rcases h2 with h2|⟨e2,h2⟩
 ·exact .inl (List.lt_trans h1 h2)
 ·exact .inl (e2 ▸ h1)
 ·exact .inl (e1 ▸ h2)
 ·exact .inr ⟨e1.trans e2,List.lt_trans h1 h2⟩
theorem BZ(a b:Bs):a<b∨a=b∨b<a:=by
 rcases Classical.em (a<b) with h|h
 ·exact .inl h
 ·rcases Classical.em (b<a) with h2|h2
  ·exact .inr (.inr h2)
  ·exact .inr (.inl (List.le_antisymm (List.not_lt.1 h2) (List.not_lt.1 h)))
theorem l3(a b:Nm):db a b=true∨a=b∨db b a=true:=by
 rw[qa,qa]
 rcases BZ a.1 b.1 with h|h|h
 ·exact .inl (.inl h)
 ·rcases BZ a.2 b.2 with h2|h2|h2
  ·exact .inl (.inr ⟨h,h2⟩)
  ·exact .inr (.inl (Prod.ext h h2))
  ·exact .inr (.inr (.inr ⟨h.symm,h2⟩))
 ·exact .inr (.inr (.inl h))
theorem zI{a b:Nm}(h:db a b=true):db b a=false:=by
 cases h2:db b a with
 |false=>rfl
 |true=>exact absurd (lE h h2) (by rw[jV];simp)
theorem Kr{a b:Nm}(h1:db a b=false)(h2:db b a=false):a=b:=by
 rcases l3 a b with h|h|h
 ·rw[h] at h1;exact absurd h1 aD
 ·exact h
 ·rw[h] at h2;exact absurd h2 aD
theorem sM{a b c:Nm}(h1:db a b=false)(h2:db b c=false):db a c=false:=by
 cases h:db a c with
 |false=>rfl
 |true=>
  rcases l3 b c with h3|rfl|h3
  ·rw[h3] at h2;exact absurd h2 aD
  ·rw[h] at h1;exact absurd h1 aD
  ·rw[lE h h3] at h1;exact absurd h1 aD
theorem vm:Go.Sort.SWO aP:=⟨fun _=>jV _,fun _ _ _=>lE,fun _ _ _=>sM⟩
theorem vV{a b:Nm}:eA a b=0↔a=b:=by
 unfold eA
 split
 ·rename_i h
  constructor
  ·intro e;exact absurd e h
  ·rintro rfl;exact absurd (ql.2 rfl) h
 ·rename_i h
  have h:a.1=b.1:=ql.1 (by simpa using h)
  rw[ql]
  exact⟨fun e=>Prod.ext h e,fun e=>by rw[e]⟩
def dc(p:Po):Bool:=aY p.aq&&aY p.value&&!(p.over&&(decide (p.aq≠0)||decide (p.value≠0)))
def cE:List Po→Bool
 |[]=>true
 |p::l=>dc p&&(match l with|[]=>true|q::_=>aP p q)&&cE l
def dR(n:Nm)(l:List Po):List Po:=l.filter fun p=>decide (aN p=n)
def ed(n:Nm)(l:List Po):Po:=
 if l.any (·.over) then⟨n.1,n.2,0,0,true⟩
 else if(bF (l.map (·.aq))).2&&(bF (l.map (·.value))).2 then⟨n.1,n.2,(bF (l.map (·.aq))).1,(bF (l.map (·.value))).1,false⟩ else⟨n.1,n.2,0,0,true⟩
def ec(l:List Po)(n:Nm):Po:=ed n (dR n l)
def dX(l:List Po)(n:Nm):Po:=match l.find? (fun p=>decide (aN p=n)) with
 |some p=>p
 |none=>⟨n.1,n.2,0,0,false⟩
def fW:Nat→List Po→List Po
 |0,_=>[]
 |_,[]=>[]
 |k+1,p::l=>ed (aN p) (p::l.takeWhile fun q=>decide (aN q=aN p))::fW k (l.dropWhile fun q=>decide (aN q=aN p))
def la(l:List Po):List Po:=(Go.Stb.iP aP l.toArray).toList
def dP(ls:List (List Po)):List Po×Int:=if ls.all cE then(fW ls.flatten.length (la ls.flatten),0) else([],1)
def ij(l:List Po):Prop:=l.Pairwise fun p q=>aP p q=true
structure iG(l all:List Po):Prop where
 ie:ij l
 mem:∀p,p∈l↔(∃q∈all,aN q=aN p)∧p=ec all (aN p)
theorem nk{n:Nm}{l:List Po}:aN (ed n l)=n:=by unfold ed;split<;>first|rfl|(split<;>rfl)
theorem mK{n:Nm}{l:List Po}:aN (ec l n)=n:=nk
theorem sX:∀{l m:List Po},ij l→ij m→(∀p,p∈l↔p∈m)→l=m
 |[],[],_,_,_=>rfl
 |[],q::m,_,_,h=>absurd ((h q).2 aD) aD
 |p::l,[],_,_,h=>absurd ((h p).1 aD) aD
 |p::l,q::m,h1,h2,h=>by
  have a1:=List.pairwise_cons.1 h1
  have a2:=List.pairwise_cons.1 h2
  have irr:∀x:Po,aP x x=true→False:=fun x hx=>by have:=jV (aN x);unfold aP at hx;rw[hx] at this;exact absurd this aD
  have e:p=q:=by
   rcases List.mem_cons.1 ((h p).1 aD) with e|e
   ·exact e
   ·rcases List.mem_cons.1 ((h q).2 aD) with e2|e2
    ·exact e2.symm
    ·exact absurd (lE (a1.1 q e2) (a2.1 p e)) (by rw[jV];simp)
  subst e
  congr 1
  refine sX a1.2 a2.2 fun x=>?_
  constructor
  ·intro hx
   rcases List.mem_cons.1 ((h x).1 (List.mem_cons_of_mem _ hx)) with e|e
   ·subst e;exact(irr x (a1.1 x hx)).elim
   ·exact e
  ·intro hx
   rcases List.mem_cons.1 ((h x).2 (List.mem_cons_of_mem _ hx)) with e|e
   ·subst e;exact(irr x (a2.1 x hx)).elim
   ·exact e
theorem iG.uniq{l m all:List Po}(h1:iG l all)(h2:iG m all):l=m:=sX h1.ie h2.ie fun p=>(h1.mem p).trans (h2.mem p).symm
theorem vI{a b:List Int}(h:a.Perm b):bC a=bC b:=by
 induction h with
 |nil=>rfl
 |cons x _ ih=>simp[bC,ih]
 |swap x y l=>simp only[bC];omega
 |trans _ _ h1 h2=>exact h1.trans h2
theorem ya{a b:List Int}(h:a.Perm b):bF a=bF b:=by
 unfold bF;rw[vI h,h.all_eq]
theorem Gl{n:Nm}{a b:List Po}(h:a.Perm b):ed n a=ed n b:=by
 unfold ed;rw[h.any_eq,ya (h.map _),ya (h.map _)]
theorem Pb{n:Nm}{a b:List Po}(h:a.Perm b):ec a n=ec b n:=Gl (h.filter _)
theorem iG.perm{l a b:List Po}(h:a.Perm b)(hm:iG l a):iG l b:=⟨hm.ie,fun p=>by
 rw[hm.mem,Pb h]
 constructor
 ·rintro⟨⟨q,hq,e⟩,h2⟩;exact⟨⟨q,h.mem_iff.1 hq,e⟩,h2⟩
 ·rintro⟨⟨q,hq,e⟩,h2⟩;exact⟨⟨q,h.mem_iff.2 hq,e⟩,h2⟩⟩
theorem zC:∀(k:Nat) (l:List Po),l.length≤k→l.Pairwise (fun p q=>aP q p=false)→iG (fW k l) l
 |0,l,hk,_=>by
  have:l=[]:=List.eq_nil_of_length_eq_zero ab
  subst this
  exact⟨List.Pairwise.nil,fun p=>by simp[fW]⟩
 |k+1,[],_,_=>⟨List.Pairwise.nil,fun p=>by simp[fW]⟩
 |k+1,p::l,hk,hs=>by
  obtain⟨hs1,hs2⟩:=List.pairwise_cons.1 hs
  have hsplit:=List.takeWhile_append_dropWhile (p:=fun q=>decide (aN q=aN p)) (l:=l)
  have hd:∀q∈l.dropWhile (fun q=>decide (aN q=aN p)),aP p q=true:=by
   intro q hq
   cases hdw:l.dropWhile (fun q=>decide (aN q=aN p)) with
   |nil=>rw[hdw] at hq;exact absurd hq aD
   |cons x xs=>
    have hx:¬aN x=aN p:=by
     have:=List.head?_dropWhile_not (fun q=>decide (aN q=aN p)) l
     rw[hdw] at this
     simpa using this
    have hxl:x∈l:=by rw[←hsplit,hdw];simp
    have hpx:aP p x=true:=by
     rcases l3 (aN p) (aN x) with h|h|h
     ·exact h
     ·exact absurd h.symm hx
     ·exact absurd (hs1 x hxl) (by unfold aP;rw[h];simp)
    rw[hdw] at hq
    rcases List.mem_cons.1 hq with e|hq
    ·rw[e];exact hpx
    ·have hp2:(x::xs).Pairwise (fun p q=>aP q p=false):=by rw[←hdw];exact hs2.sublist (List.dropWhile_sublist _)
     have hxq:=(List.pairwise_cons.1 hp2).1 q hq
     cases h:aP p q with
     |true=>rfl
     |false=>exact absurd hpx (by unfold aP at *;rw[sM h hxq];simp)
  have ht:∀q∈l.takeWhile (fun q=>decide (aN q=aN p)),aN q=aN p:=fun q hq=>by
   simpa using List.all_takeWhile (p:=fun q=>decide (aN q=aN p)) (l:=l) |> fun h=>List.all_eq_true.1 h q hq
  have hlen:(l.dropWhile fun q=>decide (aN q=aN p)).length≤k:=by
   have:=(List.dropWhile_sublist (fun q=>decide (aN q=aN p)) (l:=l)).length_le
   simp only[List.length_cons] at hk;omega
  have ih:=zC k (l.dropWhile fun q=>decide (aN q=aN p)) hlen (hs2.sublist (List.dropWhile_sublist _))
  have hself:dR (aN p) (p::l)=p::l.takeWhile (fun q=>decide (aN q=aN p)):=by
   unfold dR
   rw[List.filter_cons_of_pos aD]
   congr 1
   conv=>lhs;rw[←hsplit,List.filter_append]
   rw[List.filter_eq_self.2 (fun q hq=>by simpa using ht q hq),List.filter_eq_nil_iff.2 (fun q hq=>by
    have:=hd q hq
    simp only[decide_eq_true_eq]
    intro e
    unfold aP at this;rw[e,jV] at this;exact absurd this aD),List.append_nil]
  have hrest:∀n,n≠aN p→dR n (p::l)=dR n (l.dropWhile fun q=>decide (aN q=aN p)):=by
   intro n hn
   unfold dR
   rw[List.filter_cons_of_neg (by simpa using Ne.symm hn)]
   conv=>lhs;rw[←hsplit,List.filter_append]
   rw[List.filter_eq_nil_iff.2 (fun q hq=>by
    simp only[decide_eq_true_eq];intro e;exact hn (e.symm.trans (ht q hq))),List.nil_append]
  refine⟨?_,?_⟩
  ·refine List.pairwise_cons.2 ⟨fun x hx=>?_,ih.ie⟩
   obtain⟨⟨q,hq,e⟩,_⟩:=(ih.mem x).1 hx
   have:=hd q hq
   unfold aP at *
   rw[nk,←e];exact this
  ·intro x
   show x∈_::_↔_
   rw[List.mem_cons,ih.mem]
   constructor
   ·rintro(e|⟨⟨q,hq,e⟩,h⟩)
    ·have en:aN x=aN p:=by rw[e];exact nk
     refine⟨⟨p,by simp,en.symm⟩,?_⟩
     rw[en];unfold ec;rw[hself];exact e
    ·have hne:aN x≠aN p:=by
      intro e2
      have:=hd q hq
      unfold aP at this;rw[e,e2,jV] at this;exact absurd this aD
     refine⟨⟨q,List.mem_cons_of_mem _ ((List.dropWhile_sublist _).subset hq),e⟩,?_⟩
     rw[h];unfold ec;rw[nk,hrest _ hne]
   ·rintro⟨⟨q,hq,e⟩,h⟩
    by_cases hn:aN x=aN p
    ·left
     rw[h,hn];unfold ec;rw[hself]
    ·right
     refine⟨⟨q,?_,e⟩,?_⟩
     ·rcases List.mem_cons.1 hq with e2|hq
      ·exact absurd (e.symm.trans (by rw[e2])) hn
      ·rw[←hsplit] at hq
       rcases List.mem_append.1 hq with hq|hq
       ·exact absurd (e.symm.trans (ht q hq)) hn
       ·exact hq
     ·have h2:=h
      unfold ec at h2 ⊢;rw[hrest _ hn] at h2;exact h2
theorem pa{x y:Lm}:bH x y<0↔db (x.acc,x.sym) (y.acc,y.sym)=true:=by unfold bH db;rw[decide_eq_true_eq]
theorem AJ{x y:Lm}:bH x y=0↔(x.acc,x.sym)=(y.acc,y.sym):=vV
theorem sS{x y z:Lm}(h1:bH x y<0)(h2:bH y z<0):bH x z<0:=pa.2 (lE (pa.1 h1) (pa.1 h2))
theorem tJ{x y:Lm}(h:¬bH y x<0)(h0:¬bH y x=0):bH x y<0:=by
 rw[pa] at h ⊢
 rcases l3 (y.acc,y.sym) (x.acc,x.sym) with h1|h1|h1
 ·exact absurd h1 h
 ·exact absurd (AJ.2 h1) h0
 ·exact h1
theorem Tg(x:Lm):¬bH x x<0:=by rw[pa,jV];simp
theorem uf{x y:Lm}(h:bH y x=0)(z:Lm):bH z x=bH z y∧bH x z=bH y z:=by
 have e:=AJ.1 h
 simp only[Prod.mk.injEq] at e
 unfold bH;rw[e.1,e.2];exact⟨rfl,rfl⟩
theorem j7{l:List Lm}:cd l=true↔l.length≤32∧(∀x∈l,eC x=true)∧∀k x y,l[k]?=some x→l[k+1]?=some y→bH x y<0:=by
 unfold cd
 rw[Bool.and_eq_true,decide_eq_true_eq,List.all_eq_true]
 constructor
 ·rintro⟨h1,h2⟩
  refine⟨h1,fun x hx=>?_,fun k x y hx hy=>?_⟩
  ·obtain⟨k,hk⟩:=List.mem_iff_getElem?.1 hx
   have:=h2 k (List.mem_range.2 (bM hk))
   rw[mB hk,Bool.and_eq_true] at this
   exact this.1
  ·have:=h2 (k+1) (List.mem_range.2 (bM hy))
   rw[mB hy,Bool.and_eq_true] at this
   have e:(k+1==0)=false:=by simp
   rw[e,Nat.add_sub_cancel,hx] at this
   simpa using this.2
 ·rintro⟨h1,h2,h3⟩
  refine⟨h1,fun k hk=>?_⟩
  have hk:=List.mem_range.1 hk
  have hx:l[k]?=some l[k]:=List.getElem?_eq_getElem hk
  rw[mB hx,h2 _ (List.getElem_mem hk),Bool.true_and]
  cases k with
  |zero=>rfl
  |succ k=>
   have hy:l[k]?=some l[k]:=List.getElem?_eq_getElem ab
   rw[Nat.add_sub_cancel,hy]
   have:=h3 k _ _ hy hx
   simp[this]
theorem uA{l:List Lm}(h:cd l=true):∀(j i:Nat) (x y:Lm),i<j→l[i]?=some x→l[j]?=some y→bH x y<0:=by
 intro j
 induction j with
 |zero=>intro i x y h1;omega
 |succ j ih=>
  intro i x y h1 hx hy
  have h3:=(j7.1 h).2.2
  rcases Nat.lt_or_ge i j with h2|h2
  ·have hz:l[j]?=some (l[j]'(by have:=bM hy;omega)):=List.getElem?_eq_getElem _
   exact sS (ih i x _ h2 hx hz) (h3 j _ _ hz hy)
  ·obtain rfl:i=j:=by omega
   exact h3 i x y hx hy
theorem KU{l:List Lm}{x:Lm}{i:Nat}(hi:i≤l.length)(h1:∀k y,k<i→l[k]?=some y→bH y x<0)(h2:∀y,l[i]?=some y→¬bH y x<0):bn l x=i:=by
 unfold bn
 induction l generalizing i with
 |nil=>simp only[List.length_nil] at hi;simp;omega
 |cons z l ih=>
  cases i with
  |zero=>
   have:=h2 z rfl
   rw[List.takeWhile_cons_of_neg (by simpa using this)];rfl
  |succ i=>
   have:=h1 0 z ab rfl
   rw[List.takeWhile_cons_of_pos (by simpa using this),List.length_cons,ih (i:=i) (by simpa using hi) (fun k y hk hy=>h1 (k+1) y ab hy) (fun y hy=>h2 y hy)]
theorem nz(l:List Lm)(x:Lm):bn l x≤l.length∧(∀k y,k<bn l x→l[k]?=some y→bH y x<0)∧∀y,l[bn l x]?=some y→¬bH y x<0:=by
 unfold bn
 induction l with
 |nil=>simp
 |cons z l ih=>
  by_cases hz:bH z x<0
  ·rw[List.takeWhile_cons_of_pos (by simpa using hz),List.length_cons]
   refine⟨by simpa using ih.1,fun k y hk hy=>?_,fun y hy=>ih.2.2 y (by simpa using hy)⟩
   cases k with
   |zero=>simp only[List.getElem?_cons_zero,Option.some.injEq] at hy;subst hy;exact hz
   |succ k=>exact ih.2.1 k y ab (by simpa using hy)
  ·rw[List.takeWhile_cons_of_neg (by simpa using hz)]
   refine⟨by simp,fun k y hk=>by simp at hk,fun y hy=>?_⟩
   simp only[List.length_nil,List.getElem?_cons_zero,Option.some.injEq] at hy;subst hy;exact hz
def eH(l:List Lm)(x:Lm):Bool:=match l[bn l x]? with
 |some y=>decide (bH y x=0)
 |none=>false
theorem ml{l:List Lm}{x y:Lm}(h:l[bn l x]?=some y):eH l x=decide (bH y x=0):=by unfold eH;rw[h]
theorem u5{l:List Lm}{x:Lm}(h:l.length≤bn l x):eH l x=false:=by unfold eH;rw[List.getElem?_eq_none h]
theorem pO{l:List Lm}{x:Lm}(h:eH l x=true):bn l x<l.length:=by
 rcases Nat.lt_or_ge (bn l x) l.length with h'|h'
 ·exact h'
 ·rw[u5 h'] at h;exact absurd h aD
theorem sV{l:List Lm}{x:Lm}(h:cd l=true)(hm:eC x=true)(hh:eH l x=true):df l x=(l.set (bn l x) x,0):=by
 unfold df;rw[if_pos ⟨h,hm⟩]
 have hy:l[bn l x]?=some (l[bn l x]'(pO hh)):=List.getElem?_eq_getElem _
 rw[ml hy] at hh
 rw[hy];dsimp only;rw[if_pos (by simpa using hh)]
theorem v7{l:List Lm}{x:Lm}(h:cd l=true)(hm:eC x=true)(hh:eH l x=false)(h32:l.length=32):df l x=(l,5):=by
 unfold df;rw[if_pos ⟨h,hm⟩]
 cases hy:l[bn l x]? with
 |none=>dsimp only;rw[if_pos h32]
 |some y=>
  rw[ml hy] at hh
  dsimp only;rw[if_neg (by simpa using hh),if_pos h32]
theorem tG{l:List Lm}{x:Lm}(h:cd l=true)(hm:eC x=true)(hh:eH l x=false)(h32:¬l.length=32):df l x=(l.take (bn l x)++x::l.drop (bn l x),0):=by
 unfold df;rw[if_pos ⟨h,hm⟩]
 cases hy:l[bn l x]? with
 |none=>dsimp only;rw[if_neg h32]
 |some y=>
  rw[ml hy] at hh
  dsimp only;rw[if_neg (by simpa using hh),if_neg h32]
theorem Wr{l:List Lm}{x:Lm}(h:cd l=true)(hm:eC x=true)(hh:eH l x=true):cd (l.set (bn l x) x)=true:=by
 have hlt:=pO hh
 have hy:l[bn l x]?=some l[bn l x]:=List.getElem?_eq_getElem hlt
 rw[ml hy] at hh
 have he:=uf (y:=l[bn l x]) (x:=x) (by simpa using hh)
 obtain⟨h1,h2,h3⟩:=j7.1 h
 have get:∀(k:Nat) (z:Lm),(l.set (bn l x) x)[k]?=some z→∃z':Lm,l[k]?=some z'∧∀w:Lm,bH w z=bH w z'∧bH z w=bH z' w:=by
  intro k z hz
  rw[List.getElem?_set] at hz
  split at hz
  ·rename_i hk;subst hk
   first|(rw[if_pos hlt] at hz;cases hz;exact⟨_,hy,he⟩)|(cases hz;exact⟨_,hy,he⟩)
  ·exact⟨z,hz,fun w=>⟨rfl,rfl⟩⟩
 refine j7.2 ⟨by simpa using h1,fun z hz=>?_,fun k a b ha hb=>?_⟩
 ·rcases List.mem_or_eq_of_mem_set hz with hz|rfl
  ·exact h2 z hz
  ·exact hm
 ·obtain⟨a',e1,e2⟩:=get _ _ ha
  obtain⟨b',e3,e4⟩:=get _ _ hb
  rw[(e2 b).2,(e4 a').1]
  exact h3 k a' b' e1 e3
theorem Yu{l:List Lm}{x:Lm}(h:cd l=true)(hm:eC x=true)(hh:eH l x=false)(h32:¬l.length=32):cd (l.take (bn l x)++x::l.drop (bn l x))=true:=by
 obtain⟨h1,h2,h3⟩:=j7.1 h
 obtain⟨p1,p2,p3⟩:=nz l x
 have htl:(l.take (bn l x)).length=bn l x:=by rw[List.length_take];omega
 refine j7.2 ⟨by simp only[List.length_append,List.length_cons,List.length_take,List.length_drop];omega,fun z hz=>?_,fun k a b ha hb=>?_⟩
 ·rcases List.mem_append.1 hz with hz|hz
  ·exact h2 z (List.mem_of_mem_take hz)
  ·rcases List.mem_cons.1 hz with rfl|hz
   ·exact hm
   ·exact h2 z (List.mem_of_mem_drop hz)
 ·rcases Nat.lt_trichotomy (k+1) (bn l x) with hk|hk|hk
  ·rw[List.getElem?_append_left ab,List.getElem?_take,if_pos ab] at ha
   rw[List.getElem?_append_left ab,List.getElem?_take,if_pos ab] at hb
   exact h3 k a b ha hb
  ·rw[List.getElem?_append_left ab,List.getElem?_take,if_pos ab] at ha
   rw[List.getElem?_append_right ab,htl,hk,Nat.sub_self] at hb
   simp only[List.getElem?_cons_zero,Option.some.injEq] at hb;subst hb
   exact p2 k a ab ha
  ·rw[List.getElem?_append_right ab,htl,show k+1-bn l x=(k-bn l x)+1 by omega,List.getElem?_cons_succ,List.getElem?_drop] at hb
   rcases Nat.lt_or_ge (bn l x) k with hk2|hk2
   ·rw[List.getElem?_append_right ab,htl,show k-bn l x=(k-bn l x-1)+1 by omega,List.getElem?_cons_succ,List.getElem?_drop] at ha
    refine h3 (k-1) a b ?_ ?_
    ·rw[←ha];congr 1;omega
    ·rw[←hb];congr 1;omega
   ·obtain rfl:k=bn l x:=by omega
    rw[List.getElem?_append_right ab,htl,Nat.sub_self] at ha
    simp only[List.getElem?_cons_zero,Option.some.injEq] at ha;subst ha
    have hb:l[bn l x]?=some b:=by rw[←hb];congr 1;omega
    rw[ml hb] at hh
    exact tJ (p3 b hb) (by simpa using hh)
theorem DM{l:List Lm}{x:Lm}(h:cd l=true):cd (df l x).1=true:=by
 by_cases hm:eC x=true
 ·cases hh:eH l x with
  |true=>rw[sV h hm hh];exact Wr h hm hh
  |false=>
   by_cases h32:l.length=32
   ·rw[v7 h hm hh h32];exact h
   ·rw[tG h hm hh h32];exact Yu h hm hh h32
 ·rw[qX fun e=>hm e.2];exact h
theorem Ms{g:Gt}{x:Lm}(h:bt g=true):bt (fA g x).1=true:=by
 unfold fA;rw[if_pos h]
 split
 ·obtain⟨h1,h2,h3,h4,h5,h6⟩:=oH h
  exact oG h1 h2 (DM h3) h4 h5 (Nat.le_refl _) (fun k v _ hv=>h6 v (List.mem_of_getElem? hv))
 ·exact h
theorem nv{l:List Od}{id:Bs}:hasB l id=decide (id∈l.map (·.id)):=by
 unfold hasB
 rw[Bool.eq_iff_iff,List.any_eq_true,decide_eq_true_eq,List.mem_map]
 simp only[decide_eq_true_eq]
theorem oa{v:Vn}{now:Int}(h1:aW v.book=true)(h2:bd v.ax=true)(h3:v.book.ak.length+v.ax.length≤64)(h4:0≤v.last)(h5:v.last≤now)(h6:∀o∈v.ax,o.bq=true∧hasB v.book.ak o.id=false):dv v now=true:=
 ub h1 h2 h3 h4 h5 (Nat.le_refl _) (fun k o _ ho=>h6 o (List.mem_of_getElem? ho))
theorem pe{g:Gt}{k:Nat}{v':Vn}(h:bt g=true)(hv:dv v' g.now=true):bt (cq g k v')=true:=by
 obtain⟨h1,h2,h3,h4,h5,h6⟩:=oH h
 refine oG (g:=cq g k v') (i:=g.ao.length) (by simpa[cq] using h1) (by simpa[cq] using h2) h3 h4 h5 (by simp[cq]) (fun j w _ hw=>?_)
 rcases List.mem_or_eq_of_mem_set (List.mem_of_getElem? hw) with hw|rfl
 ·exact h6 w hw
 ·exact hv
theorem Gc{g:Gt}{on:Bool}(h:bt g=true):bt (kZ g on).1=true:=by rw[tV h];exact h
theorem UR{g:Gt}{now:Int}(h:bt g=true):bt (eP g now).1=true:=by
 unfold eP
 split
 ·rename_i hc
  obtain⟨h1,h2,h3,h4,h5,h6⟩:=oH h
  have h4':cK now=true:=by
   simp only[cK,Bool.and_eq_true,decide_eq_true_eq] at h4 ⊢
   exact⟨by omega,hc.2.2⟩
  refine oG h1 h2 h3 h4' h5 (Nat.le_refl _) (fun k v _ hv=>?_)
  obtain⟨f1,f2,f3,f4,f5,f6⟩:=iH (h6 v (List.mem_of_getElem? hv))
  exact oa f1 f2 f3 f4 (Int.le_trans f5 hc.2.1) f6
 ·exact h
theorem MF{g:Gt}{n:Int}{b:Bool}(h:bt g=true):bt (iQ g n b).1=true:=by
 cases hi:ba g n with
 |false=>rw[sL hi];exact h
 |true=>
  obtain⟨k,v,rfl,hv⟩:=fk hi
  rw[tz hi hv]
  obtain⟨f1,f2,f3,f4,f5,f6⟩:=iH (jW hi hv)
  exact pe h (oa f1 f2 f3 f4 f5 f6)
theorem JX{g:Gt}{n:Int}(h:bt g=true):bt (gR g n).1=true:=by
 cases hi:ba g n with
 |false=>rw[sF hi];exact h
 |true=>
  obtain⟨k,v,rfl,hv⟩:=fk hi
  by_cases hb:v.book.bad=0
  ·rw[vf hi hv hb];exact h
  ·rw[vX hi hv hb]
   obtain⟨f1,f2,f3,f4,f5,f6⟩:=iH (jW hi hv)
   obtain⟨⟨a1,a2,a3,a4,a5,a6,a7⟩,b2,b3,b4⟩:=fj.1 f1
   refine pe h (oa (fj.2 ⟨⟨a1,a2,a3,a4,a5,by show(0:Int)≤0;decide,by show(0:Int)≤6;decide⟩,b2,b3,b4⟩) f2 f3 f4 f5 f6)
theorem xC{g:Gt}{v:Vn}{o:Od}(h:dy g v o=0):g.kill=false∧eV v g.now g.pat=0∧mV g.aT o (jT g o.acc o.sym)=0:=by
 unfold dy at h
 have hs:=wu v g.now g.pat
 cases hk:g.kill with
 |true=>rw[hk] at h;simp at h
 |false=>
  rw[hk] at h
  simp only[Bool.false_eq_true,if_false] at h
  split at h
  ·omega
  ·rename_i h2;exact⟨rfl,by simpa using h2,h⟩
theorem CB{v:Vn}{now pat:Int}(h:eV v now pat=0):v.book.ak.length+v.ax.length<64∧v.book.ids.length<256:=by
 unfold eV gE at h
 split at h
 ·omega
 split at h
 ·omega
 ·rename_i h2
  simp only[Bool.or_eq_true,decide_eq_true_eq,not_or] at h2
  omega
theorem wP{g:Gt}{v:Vn}{o:Od}(hv:dv v g.now=true)(hm:bw o=true)(ho:o.bq=true)(hk:eM v o.id=false)(hr:v.book.ak.length+v.ax.length<64):dv (fg v o) g.now=true:=by
 obtain⟨f1,f2,f3,f4,f5,f6⟩:=iH hv
 unfold eM at hk
 rw[Bool.or_eq_false_iff] at hk
 have hp:b7 v.ax o.id=none:=by
  have h2:=hk.2
  rw[nv,decide_eq_false_iff_not] at h2
  have:(b7 v.ax o.id).isNone=true:=by rw[oC];simpa using h2
  simpa using this
 refine oa f1 (uq f2 hm hp ab) (by show v.book.ak.length+(v.ax++[o]).length≤64;simp;omega) f4 f5 (fun p hp=>?_)
 rcases List.mem_append.1 hp with hp|hp
 ·exact f6 p hp
 ·rw[List.mem_singleton.1 hp];exact⟨ho,hk.1⟩
theorem VV{g:Gt}{n:Int}{o:Od}(h:bt g=true):bt (eL g n o).1=true:=by
 cases hi:ba g n with
 |false=>rw[re hi];exact h
 |true=>
  obtain⟨k,v,rfl,hv⟩:=fk hi
  cases hm:bw (dJ o) with
  |false=>rw[vD hm];exact h
  |true=>
   rw[pw hi hm hv]
   split
   ·exact h
   ·rename_i hk
    split
    ·exact h
    ·rename_i hw
     have hw:=xC (by simpa using hw)
     exact pe h (wP (jW hi hv) hm rfl (by show eM v o.id=false;simpa using hk) (CB hw.2.1).1)
theorem U4{g:Gt}{n:Int}{old id:Bs}{q p:Int}(h:bt g=true):bt (eo g n old id q p).1=true:=by
 cases hi:ba g n with
 |false=>rw[rk hi];exact h
 |true=>
  obtain⟨k,v,rfl,hv⟩:=fk hi
  rw[ku hi hv]
  split
  ·exact h
  ·rename_i hf
   split
   ·exact h
   ·rename_i hm
    split
    ·exact h
    ·rename_i hk
     split
     ·exact h
     ·rename_i hw
      have hw:=xC (by simpa using hw)
      simp only[not_or,Bool.not_eq_false] at hf
      exact pe h (wP (jW hi hv) (by simpa using hm) hf.2 (by show eM v id=false;simpa using hk) (CB hw.2.1).1)
theorem Jk{l:List Od}{o:Od}(h:(cN l o).2=0):(cN l o).1.map (·.id)=l.map (·.id)++[o.id]:=by
 unfold cN at h ⊢
 split at h<;>rename_i h1
 ·simp at h
 split at h<;>rename_i h2
 ·simp at h
 split at h<;>rename_i h3
 ·simp at h
 rw[if_neg h1,if_neg h2,if_neg h3];simp
theorem Y5{l:List Od}{id:Bs}(h:(dE l id).2=0):(dE l id).1.map (·.id)=l.map (·.id):=by
 unfold dE at h ⊢
 split at h
 ·simp at h
 ·rename_i h1
  rw[if_neg h1]
  split at h
  ·simp at h
  ·rename_i n hn
   obtain⟨o,h2,h3,h4,h5⟩:=oJ hn
   simp only[hn,h5]
   exact mG h2 rfl
theorem RY{l:List Od}{id:Bs}{q p:Int}(h:(cp l id q p).2=0):(cp l id q p).1.map (·.id)=l.map (·.id):=by
 unfold cp at h ⊢
 split at h
 ·simp at h
 ·rename_i h1
  rw[if_neg h1]
  split at h
  ·simp at h
  ·rename_i n hn
   obtain⟨o,h2,h3,h4,h5⟩:=oJ hn
   simp only[hn,h5] at h ⊢
   split at h<;>rename_i h6
   ·simp at h
   split at h<;>rename_i h7
   ·simp at h
   rw[if_neg h6,if_neg h7]
   exact mG h2 rfl
theorem Qa{l:List Od}{a b:Bs}{q p:Int}(h:(cm l a b q p).2=0):(cm l a b q p).1.map (·.id)=l.map (·.id)++[b]:=by
 unfold cm at h ⊢
 split at h
 ·simp at h
 ·rename_i h1
  rw[if_neg h1]
  split at h
  ·simp at h
  ·rename_i n hn
   obtain⟨o,h2,h3,h4,h5⟩:=oJ hn
   simp only[hn,h5] at h ⊢
   split at h<;>rename_i h6
   ·simp at h
   split at h<;>rename_i h7
   ·simp at h
   split at h<;>rename_i h8
   ·simp at h
   rw[if_neg h6,if_neg h7,if_neg h8]
   show(l.set n _++_).map _=_
   rw[List.map_append,mG (f:=fun o:Od=>o.id) h2 bz]
   rfl
theorem QQ{b c:Bk}{x:Ex}(h:jR b x c):c.ak.map (·.id)=b.ak.map (·.id)∨(jB x=true∧c.ak.map (·.id)=b.ak.map (·.id)++[x.ord]):=by
 cases h with
 |opens hk h=>exact .inr ⟨by simp[jB,hk],Jk h⟩
 |vb=>exact .inl rfl
 |vE=>exact .inl rfl
 |al hk h=>exact .inl (RY h)
 |changes hk h=>exact .inr ⟨by simp[jB,hk],Qa h⟩
 |uS hk h=>exact .inl (Y5 h)
theorem CC{b:Bk}{x:Ex}(hr:aW b=true)(h:(bj b x).2=3):du x=true∧b.bad=0∧b.ids.length<256∧x.id∉b.ids∧(bj b x).1.ak=b.ak:=by
 cases hx:du x with
 |false=>unfold bj at h;rw[hx] at h;simp at h
 |true=>
  have e:bj b x=bX b x:=by unfold bj;simp[hr,hx]
  rw[e] at h ⊢
  by_cases h1:b.bad≠0∨256≤b.ids.length
  ·unfold bX at h;rw[if_pos h1] at h;simp at h
  ·simp only[not_or,ne_eq,Decidable.not_not] at h1
   by_cases hm:x.id∈b.ids
   ·unfold bX at h;rw[if_neg ab,if_pos (oh.2 hm)] at h;simp at h
   ·rcases yF h1.1 ab hm with⟨e',h4,_⟩|⟨c,h4,h5,h6⟩
    ·exact⟨rfl,h1.1,by omega,hm,by rw[h4]⟩
    ·rw[h4] at h;simp at h
theorem Ue{b:Bk}{x:Ex}(hr:aW b=true)(h:(bj b x).2=1):b.ids.length<256:=by
 obtain⟨hx,hb,hm,_⟩:=vu hr h
 have e:bj b x=bX b x:=by unfold bj;simp[hr,hx]
 rw[e] at h
 rcases Nat.lt_or_ge b.ids.length 256 with h'|h'
 ·exact h'
 ·unfold bX at h;rw[if_pos (.inr h')] at h;simp at h
theorem YR{v:Vn}{x:Ex}{now:Int}(hv:dv v now=true)(hm:x.id∉v.book.ids)(hl:v.book.ids.length<256):dv (js v x) now=true:=by
 obtain⟨f1,f2,f3,f4,f5,f6⟩:=iH hv
 obtain⟨⟨a1,a2,a3,a4,a5,a6,a7⟩,b2,b3,b4⟩:=fj.1 f1
 refine oa (fj.2 ⟨⟨a1,a2,by show(v.book.ids++[x.id]).length≤256;simp;omega,a4,a5,by show(0:Int)≤2;decide,by show(2:Int)≤6;decide⟩,?_,?_,b4⟩) f2 f3 f4 f5 f6
 ·show(v.book.ids++[x.id]).Nodup
  rw[List.nodup_append]
  refine⟨b2,by simp,fun a ha c hc e=>?_⟩
  simp only[List.mem_singleton] at hc
  subst hc;subst e;exact hm ha
 ·exact fun f hf=>tP (h:=b3 f hf) (Int.le_refl _) (fun s hs=>List.mem_append_left _ hs)
theorem AR{l:List Od}{p:Nat}(h:bd l=true):bd (l.eraseIdx p)=true:=by
 rw[jO] at h ⊢
 have hs:(l.eraseIdx p).Sublist l:=List.eraseIdx_sublist ..
 exact⟨Nat.le_trans hs.length_le h.1,fun o ho=>h.2.1 o (hs.subset ho),(hs.map _).nodup h.2.2⟩
theorem RX{g:Gt}{n:Int}{x:Ex}(h:bt g=true):bt (cr g n x).1=true:=by
 cases hi:ba g n with
 |false=>rw[sj hi];exact h
 |true=>
  obtain⟨k,v,rfl,hv⟩:=fk hi
  have hrv:=jW hi hv
  obtain⟨f1,f2,f3,f4,f5,f6⟩:=iH hrv
  have hnow:=oH h
  have hn:0≤g.now:=by have:=hnow.2.2.2.1;simp only[cK,Bool.and_eq_true,decide_eq_true_eq] at this;exact this.1
  rw[mW hi hv]
  split
  ·exact h
  rename_i h24
  split
  rotate_left
  ·exact h
  rename_i h13
  refine pe h ?_
  have hb:=vQ (x:=x) f1
  have ids:∀(s:List Od) (l2:Int),bd s=true→0≤l2→l2≤g.now→(bj v.book x).1.ak.length+s.length≤64→(∀o∈s,o.bq=true∧hasB (bj v.book x).1.ak o.id=false)→dv ⟨(bj v.book x).1,s,l2,v.bB⟩ g.now=true:=
   fun s l2 e1 e2 e3 e4 e5=>oa hb e1 e4 e2 e3 e5
  have same:(bj v.book x).1.ak.map (·.id)=v.book.ak.map (·.id)→∀l2:Int,0≤l2→l2≤g.now→dv ⟨(bj v.book x).1,v.ax,l2,v.bB⟩ g.now=true:=fun e l2 e2 e3=>by
   have hlen:(bj v.book x).1.ak.length=v.book.ak.length:=by have:=congrArg List.length e;simpa using this
   refine ids _ _ f2 e2 e3 ab (fun o ho=>⟨(f6 o ho).1,?_⟩)
   rw[nv,e,←nv];exact(f6 o ho).2
  have hk3:(bj v.book x).2=3→(bj v.book x).1.ak.map (·.id)=v.book.ak.map (·.id):=fun h3=>by rw[(CC f1 h3).2.2.2.2]
  have hnew:x.id∉v.book.ids∧v.book.ids.length<256:=by
   rcases h13 with h1|h3
   ·exact⟨(vu f1 h1).2.2.1,Ue f1 h1⟩
   ·have:=CC f1 h3;exact⟨this.2.2.2.1,this.2.2.1⟩
  have h1ids:(bj v.book x).2=1→(bj v.book x).1.ak.map (·.id)=v.book.ak.map (·.id)∨(jB x=true∧(bj v.book x).1.ak.map (·.id)=v.book.ak.map (·.id)++[x.ord]):=fun h1=>by
   obtain⟨_,_,_,c,e,_,hd⟩:=vu f1 h1
   have:=QQ hd
   rw[e];exact this
  unfold kW
  split
  ·rename_i ho
   split
   ·exact YR hrv hnew.1 hnew.2
   ·rename_i p hp
    split
    ·rename_i h1
     rcases h1ids h1 with e|⟨_,e⟩
     ·
      have hs:(v.ax.eraseIdx p).Sublist v.ax:=List.eraseIdx_sublist ..
      have hlen:(bj v.book x).1.ak.length=v.book.ak.length:=by have:=congrArg List.length e;simpa using this
      have:=hs.length_le
      refine ids _ _ (AR f2) hn (Int.le_refl _) ab (fun o ho=>⟨(f6 o (hs.subset ho)).1,?_⟩)
      rw[nv,e,←nv];exact(f6 o (hs.subset ho)).2
     ·have hs:(v.ax.eraseIdx p).Sublist v.ax:=List.eraseIdx_sublist ..
      have hlen:(bj v.book x).1.ak.length=v.book.ak.length+1:=by have:=congrArg List.length e;simpa using this
      obtain⟨hpl,hfit,_⟩:=List.findIdx?_eq_some_iff_getElem.1 hp
      have hpid:v.ax[p].id=x.ord:=by
       simp only[ic,Bool.and_eq_true,decide_eq_true_eq] at hfit
       exact hfit.1.1.1.1.1.1
      have hel:(v.ax.eraseIdx p).length=v.ax.length-1:=List.length_eraseIdx_of_lt hpl
      refine ids _ _ (AR f2) hn (Int.le_refl _) ab (fun o ho=>⟨(f6 o (hs.subset ho)).1,?_⟩)
      rw[nv,e,decide_eq_false_iff_not,List.mem_append,not_or]
      refine⟨by have:=(f6 o (hs.subset ho)).2;rw[nv] at this;simpa using this,fun hx=>?_⟩
      simp only[List.mem_singleton] at hx
      have hnd:=(jO.1 f2).2.2
      obtain⟨q,hq⟩:=List.mem_iff_getElem?.1 ho
      rw[List.getElem?_eraseIdx] at hq
      have hpg:(v.ax.map (·.id))[p]?=some x.ord:=by rw[List.getElem?_map,List.getElem?_eq_getElem hpl];simp[hpid]
      have key:∀j,v.ax[j]?=some o→j=p:=fun j hj=>by
       have hjg:(v.ax.map (·.id))[j]?=some x.ord:=by rw[List.getElem?_map,hj];simp[hx]
       have hjl:=bM hjg
       exact(List.getElem?_inj hjl hnd).1 (hjg.trans hpg.symm)
      split at hq
      ·have:=key _ hq;omega
      ·have:=key _ hq;omega
    ·rename_i h1
     exact same (hk3 ab) _ f4 f5
  ·rename_i ho
   split
   ·rename_i h1
    rcases h1ids h1 with e|⟨e0,_⟩
    ·exact same e _ hn (Int.le_refl _)
    ·exact absurd e0 ho
   ·rename_i h1
    exact same (hk3 ab) _ f4 f5
theorem Nc{p:Int}(h:cK p=true):dv zeroV 0=true:=by decide
theorem Sa{n p:Int}(h1:1≤n)(h2:n≤4)(h:cK p=true):bt (oB n p).1=true:=by
 rw[qc h1 h2 h]
 refine oG (by show 1≤(List.replicate n.toNat zeroV).length;rw[List.length_replicate];omega) (by show(List.replicate n.toNat zeroV).length≤4;rw[List.length_replicate];omega) (by show cd []=true;decide) (by show cK 0=true;decide) h (Nat.le_refl _) (fun k v _ hv=>?_)
 have:=List.mem_of_getElem? hv
 simp only[List.mem_replicate] at this
 rw[this.2]
 exact Nc h
end Go.Bk
end
