/- Texts of one chain, put together (G4, Ln, G5, G6, G7, G8, GtB, Lo, G9, Lu, G10). -/
import Derived.Test.YtajeeghgiilhiaaGreatKxJ
import Derived.Test.YtajeeghgiilhiaaGreatKxI
import Derived.Test.YtajeeghgiilhiaaGreatKxF
import Derived.Laws.MakeOwn
import Derived.Test.YtajeeghgiilhiaaGreatKxA
set_option linter.unusedVariables false
set_option linter.unusedSimpArgs false
set_option maxHeartbeats 16000000
set_option maxRecDepth 8000
section
namespace Go.Proofs.YtajeeghgiilhiaaGreat
open Go Go.Abs Go.RowKit Go.Bk
theorem gk(g:Gt)(hg:dS g):ai E 45 [aO g] (fun r t=>r=bl (bt g)∧t=[]):=by
 have hg1:=hg.1
 have hg2:=hg.2.1
 refine ai.aw (n:=44) (rs:=[.tmp 2]) Tryz.func45 rfl Tryz.ntmps45 rfl ?_
 repeat'(first
 |refine aa.aj fun K hK=>?_
 |(
  refine aa.here 7 36 4 rfl ?_
  obtain⟨v,hx⟩:∃v,g.ao[i]?=some v:=⟨_,List.getElem?_eq_getElem ab⟩
  refine aa.region ?_;simp only[go_sem])
 |(refine aa.region ?_;simp only[go_sem])
 |(refine hK _ ?_;clear hK K)
 |refine aa.block ?_
 |refine aa.cond rfl (fun c=>?_) (fun c=>?_)<;>first|exact Bool.noConfusion c|(try simp only[dD] at c)
 |refine aa.skip ?_
 |(refine aa.exit ?_;simp only[go_sem])
 |(refine ah.one (rm g.aT hg2) af rfl ?_;simp only[go_sem])
 |(refine ah.one (sW g.now) af rfl ?_;simp only[go_sem])
 |(refine ah.one (sW g.pat) af rfl ?_;simp only[go_sem])
 |(refine ah.one (Li v g.now (hg.2.2 v (List.mem_of_getElem? hx))) af rfl ?_;simp only[go_sem])
 |(refine aL.cc (fun h=>?_) (fun h=>?_)<;>simp only[h,go_sem]<;>(try simp only[dD] at h))
 |(refine aL.split (fun h=>?_) (fun h=>?_)<;>simp only[h,go_sem]<;>(try simp only[dD] at h))
 |(refine aM.bG ae ?_;(try simp only[go_sem]))
 |((with_reducible refine And.intro ?_ ?_);(focus((simp;done)));(try simp only[hb,go_sem]))
 |(
  refine aa.here 6 35 1 rfl ?_
  refine aa.cC (ι:=Nat) [2,4,35,36,37,38,39,40,41,42,43] (fun(i:Nat)=>[(34,i64 i)]) (fun(i:Nat)=>i≤g.ao.length∧∀k v,k<i→g.ao[k]?=some v→dv v g.now=true) (fun(i:Nat)=>g.ao.length-i) (0) ?_ ?_ ?_
  ·(try simp only[go_sem]);(repeat'(exact .inr (aR rfl)));done
  ·exact⟨by omega,fun k v hk=>by omega⟩
  rintro i ⟨h1,h3⟩
  simp only[go_sem])
 |(
  refine⟨i+1,?_,?_,?_⟩
  ·(try simp only[go_sem]);(try rw[av ab ab]);(repeat'(first|refine And.intro ?_ ?_|exact .inr rfl|exact .inr (aR rfl)));done
  ·exact⟨by omega,pc h3 hx ae⟩
  ·(try simp only[]);omega)
 |(
  refine aa.ret ?_
  refine aB.is ?_;simp only[go_sem,aE,aI,aH,aG,aJ,aF]<;>(first|(rw[o5 ab];done)|(rw[Cg ae];done)|(rw[BO ae];done)|(rw[xh ae];done)|(rw[oS hx ae];done)|(rw[oG ab ab ae ae ae (i:=i) ab h3];done)))
 |refine aa.fin ae ?_)
theorem ig(g:Gt)(n:Int)(hg:dS g):ai E 78 [aO g,i64 n] (fun r t=>r=bl (ba g n)∧t=[]):=by
 have hg1:=hg.1
 have hg2:=hg.2.1
 refine ai.aw (n:=18) (rs:=[.tmp 4]) Tryz.func78 rfl Tryz.ntmps78 rfl ?_
 repeat'(first
 |refine aa.aj fun K hK=>?_
 |(refine aa.region ?_;simp only[go_sem])
 |(refine hK _ ?_;clear hK K)
 |(refine ah.one (gk g hg) af rfl ?_;simp only[go_sem])
 |(refine aL.split (fun h=>?_) (fun h=>?_)<;>simp only[h,go_sem]<;>(try simp only[dD] at h))
 |((with_reducible refine And.intro ?_ ?_);(focus((simp;done)));(try simp only[hb,go_sem]))
 |(
  refine aa.ret ?_
  refine aB.is ?_;simp only[go_sem,aE,aI,aH,aG,aJ,aF]<;>(first|(rw[JV ab ab];done)|(rw[zD ab];done)|(rw[S6 ab];done))))
theorem B9(v:Vn)(id:Bs)(hv:nm v):ai E 80 [aS v,str id] (fun r t=>r=bl (hasB v.book.ak id||hasB v.ax id)∧t=[]):=by
 obtain⟨ho,hf,hi,hs⟩:=hv
 refine ai.aw (n:=16) (rs:=[.tmp 4]) Tryz.func80 rfl Tryz.ntmps80 rfl ?_
 repeat'(first
 |refine aa.aj fun K hK=>?_
 |(refine aa.region ?_;simp only[go_sem])
 |(refine hK _ ?_;clear hK K)
 |(refine ah.one (vj v.book.ak id ho) af rfl ?_;simp only[go_sem])
 |(refine ah.one (vj v.ax id hs) af rfl ?_;simp only[go_sem])
 |(refine aL.cc (fun h=>?_) (fun h=>?_)<;>simp only[h,go_sem]<;>(try simp only[dD] at h))
 |(
  refine aa.ret ?_
  refine aB.is ?_;simp only[go_sem,aE,aI,aH,aG,aJ,aF]<;>((simp[*];done))))
theorem zl(g:Gt)(a s:Bs)(hg:dS g):ai E 84 [aO g,str a,str s] (fun r t=>r=wV (jT g a s)∧t=[]):=by
 have hg1:=hg.1
 have hg2:=hg.2.1
 refine ai.aw (n:=33) (rs:=[.cell 6 45]) Tryz.func84 rfl Tryz.ntmps84 rfl ?_
 repeat'(first
 |refine aa.aj fun K hK=>?_
 |(
  refine aa.here 4 15 4 rfl ?_
  obtain⟨v,hx⟩:∃v,g.ao[i]?=some v:=⟨_,List.getElem?_eq_getElem ab⟩
  have hv:=hg.2.2 v (List.mem_of_getElem? hx)
  refine aa.region ?_;simp only[go_sem])
 |(refine aa.region ?_;simp only[go_sem])
 |(refine aa.here 5 17 8 rfl ?_;refine aa.bf [0,1,2,3,4,5,6,7] [] af af rfl ?_;simp only[go_sem])
 |(refine aa.here 6 24 8 rfl ?_;refine aa.bf [0,1,2,3,4,5,6,7] [] af af rfl ?_;simp only[go_sem])
 |(refine hK _ ?_;clear hK K)
 |refine aa.block ?_
 |refine aa.cond rfl (fun c=>?_) (fun c=>?_)<;>(try simp only[dD] at c)
 |refine aa.skip ?_
 |(refine aa.exit ?_;simp only[go_sem])
 |(refine ah.one (Dh v.book a s hv.1 hv.2.1 hv.2.2.1) af rfl ?_;simp only[go_sem])
 |(refine ah.one (oL (ib g.ao a s i) (fS v.book a s)) af rfl ?_;simp only[go_sem])
 |(refine ah.one (oL (et (ib g.ao a s i) (fS v.book a s)) (kV v.ax a s)) af rfl ?_;simp only[go_sem])
 |(refine ah.one (MK v.ax a s hv.2.2.2) af rfl ?_;simp only[go_sem])
 |(refine aM.bG ae ?_;(try simp only[go_sem]))
 |((with_reducible refine And.intro ?_ ?_);(focus((simp;done)));(try simp only[hb,go_sem]))
 |(
  refine aa.here 3 14 1 rfl ?_
  refine aa.ck (ι:=Nat) [9,14,15,16,17,18,19,20,21,22,23,24,25,26,27,28,29,30,31] (fun(i:Nat)=>[(13,i64 i)]) (fun(i:Nat)=>[some [.agg [eB g.ao,bT g.aT,bl g.kill,i64 g.now,i64 g.pat]],some [.agg [i64 0,i64 0]],some [.agg [i64 (ib g.ao a s i).1,i64 (ib g.ao a s i).2]]]) (fun(i:Nat)=>[]) (fun(i:Nat)=>i≤g.ao.length) (fun(i:Nat)=>g.ao.length-i) (0) ?_ ?_ ?_
  ·(try simp only[go_sem]);(repeat'(first|refine And.intro ?_ ?_|trivial|exact .inr (aR rfl)|exact .inr ⟨rfl,aR rfl⟩));done
  ·omega
  rintro i h1
  simp only[go_sem])
 |(
  refine⟨i+1,?_,by omega,by omega⟩
  rw[An hx]
  (try simp only[go_sem]);(try rw[av ab ab]);(repeat'(first|refine And.intro ?_ ?_|exact .inr rfl|trivial|exact .inr (aR rfl)));done)
 |(
  refine aa.ret ?_
  refine aB.is ?_;simp only[go_sem,aE,aI,aH,aG,aJ,aF]<;>((rw[show jT g a s=ib g.ao a s i from(Bz ab).symm];simp;done)))
 |refine aa.fin ae ?_)
theorem IV(g:Gt)(a s:Bs)(hg:dS g):ai E 31 [aO g,str a,str s] (fun r t=>r=wV (if bt g then jT g a s else(0,0))∧t=[]):=by
 have hg1:=hg.1
 have hg2:=hg.2.1
 refine ai.aw (n:=15) (rs:=[.cell 6 45]) Tryz.func31 rfl Tryz.ntmps31 rfl ?_
 repeat'(first
 |refine aa.aj fun K hK=>?_
 |(refine aa.region ?_;simp only[go_sem])
 |(refine hK _ ?_;clear hK K)
 |refine aa.cond rfl (fun c=>?_) (fun c=>?_)<;>(try simp only[dD] at c)
 |refine aa.skip ?_
 |(refine ah.one (gk g hg) af rfl ?_;simp only[go_sem])
 |(refine ah.one (zl g a s hg) af rfl ?_;simp only[go_sem])
 |(
  refine aa.ret ?_
  refine aB.is ?_;simp only[go_sem,aE,aI,aH,aG,aJ,aF]<;>(first|(rw[if_pos ae];simp;done)|(rw[if_neg (by simp[*])];simp;done))))
theorem wZ(g:Gt)(n:Nat)(v:Vn)(o:Od)(hg:dS g)(hx:g.ao[n]?=some v)(hsm:v.book.ak.length+v.ax.length≤64):ai E 81 [aO g,i64 n,a8 o] (fun r t=>r=i64 (dy g v o)∧t=[]):=by
 have hg1:=hg.1
 have hg2:=hg.2.1
 have hn:=bM hx
 refine ai.aw (n:=35) (rs:=[.tmp 6]) Tryz.func81 rfl Tryz.ntmps81 rfl ?_
 repeat'(first
 |refine aa.aj fun K hK=>?_
 |(
  refine aa.here 4 20 3 rfl ?_
  have hst:=wu v g.now g.pat
  refine aa.region ?_;simp only[go_sem])
 |(refine aa.region ?_;simp only[go_sem])
 |(refine aa.here 3 10 11 rfl ?_;refine aa.bf [0,1,2,3,4,5,6,7,8,9,10] [] af af rfl ?_;simp only[go_sem])
 |(refine aa.here 6 25 11 rfl ?_;refine aa.bf [0,1,2,3,4,5,6,7,8,9,10] [] af af rfl ?_;simp only[go_sem])
 |(refine hK _ ?_;clear hK K)
 |refine aa.cond rfl (fun c=>?_) (fun c=>?_)<;>(try simp only[dD] at c)
 |refine aa.skip ?_
 |(refine ah.one (AY v g.now g.pat hsm) af rfl ?_;simp only[go_sem])
 |(refine ah.one (SB _ _) af rfl ?_;simp only[go_sem])
 |(refine ah.one (zl g o.acc o.sym hg) af rfl ?_;simp only[go_sem])
 |(refine ah.one (VQ g.aT o (jT g o.acc o.sym) hg2) af rfl ?_;simp only[go_sem])
 |(refine aM.bG ae ?_;(try simp only[go_sem]))
 |(
  refine aa.ret ?_
  refine aB.is ?_;simp only[go_sem,aE,aI,aH,aG,aJ,aF]<;>(first|(unfold dy;simp[*];done)|(unfold dy;rw[av ab ab];simp[*];done))))
theorem kB(g:Gt)(n:Int)(id:Bs)(hg:dS g):ai E 36 [aO g,i64 n,str id] (fun r t=>r= .aC [bl (mj g n id).1,i64 (mj g n id).2]∧t=[]):=by
 have hg1:=hg.1
 have hg2:=hg.2.1
 refine ai.aw (n:=29) (rs:=[.tmp 6,.tmp 7]) Tryz.func36 rfl Tryz.ntmps36 rfl ?_
 repeat'(first
 |refine aa.aj fun K hK=>?_
 |(
  refine aa.here 3 13 7 rfl ?_
  obtain⟨k,v,rfl,hx⟩:=fk ae
  have hv:=hg.2.2 v (List.mem_of_getElem? hx)
  have hn:=bM hx
  refine aa.region ?_;simp only[go_sem])
 |(refine aa.region ?_;simp only[go_sem])
 |(refine hK _ ?_;clear hK K)
 |refine aa.cond rfl (fun c=>?_) (fun c=>?_)<;>(try simp only[dD] at c)
 |refine aa.skip ?_
 |(refine ah.one (ig g n hg) af rfl ?_;simp only[go_sem])
 |(refine ah.one (yY v.book.ak id hv.1) af rfl ?_;simp only[go_sem])
 |(refine ah.one (yY v.ax id hv.2.2.2) af rfl ?_;simp only[go_sem])
 |(refine aL.cc (fun h=>?_) (fun h=>?_)<;>simp only[h,go_sem]<;>(try simp only[dD] at h))
 |(refine aM.bG ae ?_;(try simp only[go_sem]))
 |(
  refine aa.ret ?_
  refine aB.is ?_;simp only[go_sem,aE,aI,aH,aG,aJ,aF]<;>(first|(rw[yR ae];simp;done)|(rw[tS ae hx];simp[*];done))))
theorem kb(g:Gt)(n:Int)(hg:dS g):ai E 35 [aO g,i64 n] (fun r t=>r= .aC [i64 (eE g n).1,i64 (eE g n).2]∧t=[]):=by
 have hg1:=hg.1
 have hg2:=hg.2.1
 refine ai.aw (n:=20) (rs:=[.tmp 4,.tmp 5]) Tryz.func35 rfl Tryz.ntmps35 rfl ?_
 repeat'(first
 |refine aa.aj fun K hK=>?_
 |(
  refine aa.here 3 10 12 rfl ?_
  obtain⟨k,v,rfl,hx⟩:=fk ae
  have hsm:=o7 ae hx
  have hn:=bM hx
  refine aa.bf [0,1,2,3,4,5,6,7,8,9,10,11] [] af af rfl ?_;simp only[go_sem])
 |(refine aa.region ?_;simp only[go_sem])
 |(refine hK _ ?_;clear hK K)
 |refine aa.cond rfl (fun c=>?_) (fun c=>?_)<;>(try simp only[dD] at c)
 |refine aa.skip ?_
 |(refine ah.one (ig g n hg) af rfl ?_;simp only[go_sem])
 |(refine ah.one (AY v g.now g.pat hsm) af rfl ?_;simp only[go_sem])
 |(refine aM.bG ae ?_;(try simp only[go_sem]))
 |(
  refine aa.ret ?_
  refine aB.is ?_;simp only[go_sem,aE,aI,aH,aG,aJ,aF]<;>(first|(rw[jM ae];simp;done)|(rw[uY ae hx];simp[*];done))))
end Go.Proofs.YtajeeghgiilhiaaGreat
end
section
namespace Go.Abs
open Go Go.RowKit
theorem gr{id:Nat}{Q:Exit→St→Prop}{s:St}:sr id Q .ret s=Q .ret s:=rfl
theorem gv{n:St→Prop}{Q:Exit→St→Prop}{s:St}:jc n Q .ret s=Q .ret s:=rfl
theorem ai.tA{E:Env}{f:FuncId}{args:List AV}{k n t0:Nat}{es:List AV}(h:ai E f args fun r t=>r= .sl (some t0) k es∧t=[n]):ai E f args fun r t=>r= .sl none k es∧t=[]:=
 fun w im vs h0 hg h1 h2=>(h w im vs h0 hg h1 h2).mono fun _ _ ⟨v,r,tks,im',a,b,d,e,f,g,i,j⟩=>by
  obtain⟨rfl,_⟩:=j
  exact⟨v,_,[],im',a,b,d,e,f,⟨fun i T b h=>by simp at h,fun i j T U b d h=>by simp at h⟩,.base i.fT,rfl,rfl⟩
end Go.Abs
end
section
namespace Go.Proofs.YtajeeghgiilhiaaGreat
open Go Go.Abs Go.RowKit Go.Bk
theorem dN{no nt m:Nat}{l:List Vn}:∀es,some (l.map aS++spare 8 m)=some es→∀e∈es,∀z∈e.leaves,z.bO no nt=true:=mY fun x z hz=>by
 simp only[AV.leaves,List.mem_cons,List.not_mem_nil,or_false] at hz
 rcases hz with rfl|rfl|rfl|rfl|rfl|rfl|rfl|rfl<;>rfl
theorem lM(σ:Nat→Option Nat)(l:List Vn)(m:Nat):(l.map aS++spare 8 m).map (AV.ch σ)=l.map aS++spare 8 m:=sA fun _=>rfl
theorem fh{l:List Vn}{m:Nat}:(l.map aS++spare 8 m).take l.length=l.map aS:=List.take_left' aD
theorem fw(l:List Vn):∀e∈l.map aS,∀x∈e.leaves,x.dW=some x:=by
 intro e he x hx
 obtain⟨o,_,rfl⟩:=List.mem_map.1 he
 simp only[AV.leaves,List.mem_cons,List.not_mem_nil,or_false] at hx
 rcases hx with rfl|rfl|rfl|rfl|rfl|rfl|rfl|rfl<;>rfl
theorem cZ{l:List Vn}{i m:Nat}{v:Vn}(h:l[i]?=some v):(l.map aS++spare 8 m).set i (.agg [aV v.book.ak,cg v.book.al,.sl none 1 (v.book.ids.map str),i64 v.book.clock,i64 v.book.bad,aV v.ax,i64 v.last,bl v.bB])=l.map aS++spare 8 m:=by
 obtain⟨hi,rfl⟩:=List.getElem?_eq_some_iff.1 h
 rw[List.set_append_left _ _ (by simpa using hi)]
 congr 1
 apply List.ext_getElem aD
 intro k h1 h2
 rw[List.getElem_set]
 split
 ·rename_i e;subst e;simp
 ·rfl
theorem lz{k:Nat}:spare k 0=[]:=rfl
theorem kh(l:List Dn)(hl:l.length≤1000000):ai E 127 [.sl none 9 (l.map bY)] (fun r t=>r= .sl none 9 (l.map bY)∧t=[]):=(BF l hl).tA
theorem kg(l:List Bs)(hl:l.length≤1000000):ai E 128 [.sl none 1 (l.map str)] (fun r t=>r= .sl none 1 (l.map str)∧t=[]):=(uK l hl).tA
theorem wg(l:List Lm)(hl:l.length≤1000000):ai E 145 [.sl none 6 (l.map br)] (fun r t=>r= .sl (some 0) 6 (l.map br)∧t=[l.length]):=by
 refine ai.aw (n:=8) (rs:=[.tmp 2]) Tryz.func145 rfl Tryz.ntmps145 rfl ?_
 repeat'(first
 |refine aa.aj fun K hK=>?_
 |(refine aa.region ?_;simp only[go_sem])
 |(refine hK _ ?_;clear hK K)
 |refine aa.cond rfl (fun c=>?_) (fun c=>?_)<;>(try simp only[dD] at c)
 |refine aa.skip ?_
 |((with_reducible refine And.intro ?_ ?_);(focus(first|omega|(simp;done)));(try simp only[hb,go_sem]))
 |(
  refine aa.ret ?_
  simp only[go_sem]
  first
  |(have he:l=[]:=by
     apply Classical.byContradiction;intro hne
     have:=hbb (by simpa using hne)
     rw[this] at c;exact absurd c aD
    exact⟨[(false,6)],.sl (some 0) 6 [],rfl,rfl,by rw[he];rfl,by rw[he];rfl⟩)
  |exact⟨[(true,0)],.sl (some 0) 6 _,rfl,⟨rfl,rfl,rfl⟩,by simp,by simp[gG]⟩)
 |(refine fun(bb:Bool) (hbb:_→bb=false)=>?_))
theorem lD(l:List Lm)(hl:l.length≤1000000):ai E 145 [.sl none 6 (l.map br)] (fun r t=>r= .sl none 6 (l.map br)∧t=[]):=(wg l hl).tA
theorem mO(g:Gt)(hg:bP g):ai E 76 [aO g] (fun r t=>r=aO g∧t=[]):=by
 have hg1:=hg.1
 have hg2:=hg.2.1
 refine ai.aw (n:=63) (rs:=[.cell 2 58]) Tryz.func76 rfl Tryz.ntmps76 rfl ?_
 repeat'(first
 |(
  refine aa.ky hc1 ?_
  first
  |(refine aa.iN [0,1,3] ay rfl rfl ?_;simp only[go_sem,lM,List.length_map];refine aa.weaken ?_ (hc1 m);(try simp only[go_sem]);(repeat'(first|refine And.intro ?_ ?_|trivial|exact .inr (aR rfl)|exact .inr dN));done)
  |(have he:g.ao=[]:=Classical.byContradiction fun hne=>by
     have:=hbb (by simpa using hne)
     simp_all
    refine aa.lf 0 0 8 _ rfl rfl ?_
    simp only[go_sem]
    refine aa.weaken ?_ (hc1 0);(try simp only[go_sem,he,List.length_nil,List.map_nil,lz]);(repeat'(first|refine And.intro ?_ ?_|trivial|exact .inr (aR rfl)));done))
 |refine aa.aj fun K hK=>?_
 |(
  refine aa.here 1 5 5 rfl ?_
  first
  |(have h0:=hc1;clear h0;refine aa.bA ?_;refine an.at 5 2 rfl ?_;simp only[go_sem])
  |(refine aa.cutAt (ι:=Nat) [5,6,7,8] (fun(m:Nat)=>[]) (fun(m:Nat)=>[some [.agg [.mu 2 8 0 g.ao.length (g.ao.length+m),bT g.aT,bl g.kill,i64 g.now,i64 g.pat]],some [.agg [.aQ,.aQ,bl false,i64 0,i64 0]],some (g.ao.map aS++spare 8 m)]) (fun(m:Nat)=>[]) hK (fun m=>?_) (fun hc1=>?_)))
 |(refine Cut.mk ?_;simp only[go_sem])
 |(
  refine aa.here 5 15 5 rfl ?_
  obtain⟨v,hx⟩:∃v,g.ao[i]?=some v:=⟨_,List.getElem?_eq_getElem ab⟩
  have hv:=hg.2.2 v (List.mem_of_getElem? hx)
  have hx2:(g.ao.map aS++spare 8 m)[i]?=some (aS v):=by rw[List.getElem?_append_left (by simpa using bM hx),List.getElem?_map,hx];rfl
  refine aa.region ?_;simp only[go_sem])
 |(
  refine aa.here 7 29 11 rfl ?_
  (try rw[cZ hx])
  refine aa.region ?_;simp only[go_sem])
 |(
  refine aa.here 8 39 11 rfl ?_
  (try rw[cZ hx])
  refine aa.region ?_;simp only[go_sem])
 |(
  refine aa.here 9 49 9 rfl ?_
  (try rw[cZ hx])
  refine aa.region ?_;simp only[go_sem])
 |(
  refine aa.here 10 57 2 rfl ?_
  (try rw[cZ hx])
  refine aa.region ?_;simp only[go_sem])
 |(
  refine aa.here 12 62 2 rfl ?_
  refine aa.eX 0 0 (jd:=2) (k:=8) (n:=g.ao.length) (cap:=g.ao.length+m) _ (g.ao.map aS++spare 8 m) ay rfl rfl rfl (by simp[cJ]) (by rw[fh];exact fw _) ?_
  rw[fh]
  simp only[go_sem]
  refine aa.region ?_;simp only[go_sem])
 |(
  refine aa.here 3 5 4 rfl ?_
  refine aa.bA ?_
  refine an.iY eN ?_
  simp only[go_sem]
  refine an.at 3 1 rfl ?_
  simp only[go_sem]
  refine an.kj jE eN rfl rfl rfl (by simp;omega) (by simp;omega) ?_
  intro m
  simp only[go_sem]
  refine an.of ?_
  simp only[go_sem])
 |(refine aa.region ?_;simp only[go_sem])
 |(refine hK _ ?_;clear hK K)
 |refine aa.block ?_
 |refine aa.cond rfl (fun c=>?_) (fun c=>?_)<;>(try simp only[dD] at c)
 |refine aa.skip ?_
 |(refine aa.exit ?_;simp only[go_sem])
 |(refine ah.one (fq v.book.ak hv.1) af rfl ?_;simp only[go_sem])
 |(refine ah.one (fq v.ax hv.2.2.2) af rfl ?_;simp only[go_sem])
 |(refine ah.one (kh v.book.al hv.2.1) af rfl ?_;simp only[go_sem])
 |(refine ah.one (kg v.book.ids hv.2.2.1) af rfl ?_;simp only[go_sem])
 |(refine ah.one (lD g.aT hg2) af rfl ?_;simp only[go_sem])
 |(refine an.call (rs:=[.tmp 2]) Tryz.func144 rfl Tryz.ntmps144 rfl af rfl rfl ?_;simp only[go_sem])
 |(refine aM.bG ae ?_;(try simp only[go_sem]))
 |(refine aM.gj ae ?_;(try simp only[go_sem]))
 |((with_reducible refine And.intro ?_ ?_);(focus(first|omega|(simp;done)));(try simp only[hb,go_sem]))
 |(
  refine aa.here 3 13 1 rfl ?_
  refine aa.cC (ι:=Nat) [3,4,13,14,15,16,17,18,19,20,21,22,23,24,25,26,27,28,29,30,31,32,33,34,35,36,37,38,39,40,41,42,43,44,45,46,47,48,49,50,51,52,53,54,55,56,57] (fun(i:Nat)=>[(12,i64 i)]) (fun(i:Nat)=>i≤g.ao.length) (fun(i:Nat)=>g.ao.length-i) (0) ?_ ?_ ?_
  ·(try simp only[go_sem]);(repeat'(first|refine And.intro ?_ ?_|trivial|exact .inr (aR rfl)|exact .inr dN));done
  ·omega
  rintro i h1
  simp only[go_sem])
 |(
  refine⟨i+1,?_,?_,?_⟩
  ·(try simp only[go_sem]);(try rw[av ab ab]);(repeat'(first|refine And.intro ?_ ?_|exact .inr rfl|trivial|exact .inr (aR rfl)|exact .inr dN));done
  ·omega
  ·(try simp only[]);omega)
 |(
  refine aa.ret ?_
  refine aB.is ?_;simp only[go_sem,aE,aI,aH,aG,aJ,aF]<;>(first|fail))
 |(refine aa.ret ?_;refine bR.ret rfl ?_;simp only[go_sem])
 |(refine aa.ret ?_;simp only[gr,gv];refine bR.ret rfl ?_;simp only[go_sem])
 |(refine an.of ?_;simp only[go_sem])
 |((fail_if_success(have:=hbb));(with_reducible intro bb hbb))
 |refine aa.fin ae ?_)
theorem Ei(g:Gt)(on:Bool)(hg:bP g):ai E 88 [aO g,bl on] (fun r t=>r= .aC [aO (kZ g on).1,i64 (kZ g on).2]∧t=[]):=by
 have hgi:=hg.fit
 refine ai.aw (n:=16) (rs:=[.cell 4 58,.tmp 5]) Tryz.func88 rfl Tryz.ntmps88 rfl ?_
 repeat'(first
 |refine aa.aj fun K hK=>?_
 |(refine aa.region ?_;simp only[go_sem])
 |(refine hK _ ?_;clear hK K)
 |refine aa.cond rfl (fun c=>?_) (fun c=>?_)<;>(try simp only[dD] at c)
 |refine aa.skip ?_
 |(refine ah.one (mO g hg) af rfl ?_;simp only[go_sem])
 |(refine ah.one (gk g hgi) af rfl ?_;simp only[go_sem])
 |(
  refine aa.ret ?_
  refine aB.is ?_;simp only[go_sem,aE,aI,aH,aG,aJ,aF]<;>(first|(rw[tV ae];simp;done)|(rw[ve ae];simp;done))))
theorem Ym(g:Gt)(now:Int)(hg:bP g):ai E 86 [aO g,i64 now] (fun r t=>r= .aC [aO (eP g now).1,i64 (eP g now).2]∧t=[]):=by
 have hgi:=hg.fit
 refine ai.aw (n:=26) (rs:=[.cell 4 58,.tmp 5]) Tryz.func86 rfl Tryz.ntmps86 rfl ?_
 repeat'(first
 |refine aa.aj fun K hK=>?_
 |(refine aa.region ?_;simp only[go_sem])
 |(refine hK _ ?_;clear hK K)
 |refine aa.cond rfl (fun c=>?_) (fun c=>?_)<;>first|exact Bool.noConfusion c|(try simp only[dD] at c)
 |refine aa.skip ?_
 |(refine ah.one (mO g hg) af rfl ?_;simp only[go_sem])
 |(refine ah.one (gk g hgi) af rfl ?_;simp only[go_sem])
 |(refine aL.cc (fun h=>?_) (fun h=>?_)<;>simp only[h,go_sem]<;>(try simp only[dD] at h))
 |(refine aL.split (fun h=>?_) (fun h=>?_)<;>simp only[h,go_sem]<;>(try simp only[dD] at h))
 |(
  refine aa.ret ?_
  refine aB.is ?_;simp only[go_sem,aE,aI,aH,aG,aJ,aF]<;>(first|(rw[DA ae ab ab];simp;done)|(rw[Ci ae];simp;done)|(rw[Nr ab];simp;done))))
theorem fL{l:List Vn}{k m:Nat}{v:Vn}:((l.set k v).map aS++spare 8 m).take l.length=(l.set k v).map aS:=List.take_left' aD
theorem mf{l:List Vn}{k m:Nat}{v:Vn}(h:k<l.length):(l.map aS++spare 8 m).set k (aS v)=(l.set k v).map aS++spare 8 m:=by
 rw[List.set_append_left _ _ (by simpa using h),List.map_set]
theorem QW(g:Gt)(n:Int)(b:Bool)(hg:bP g):ai E 89 [aO g,i64 n,bl b] (fun r t=>r= .aC [aO (iQ g n b).1,i64 (iQ g n b).2]∧t=[]):=by
 have hgi:=hg.fit
 have hg1:=hg.1
 have hg2:=hg.2.1
 refine ai.aw (n:=23) (rs:=[.cell 6 58,.tmp 7]) Tryz.func89 rfl Tryz.ntmps89 rfl ?_
 repeat'(first
 |(
  refine aa.ky hc1 ?_
  first
  |(refine aa.iN [0,1,2,3,5] ay rfl rfl ?_;simp only[go_sem,lM,List.length_map];refine aa.weaken ?_ (hc1 m);(try simp only[go_sem]);(repeat'(first|refine And.intro ?_ ?_|trivial|exact .inr (aR rfl)|exact .inr dN));done)
  |(have he:g.ao=[]:=Classical.byContradiction fun hne=>by
     have:=hbb (by simpa using hne)
     simp_all
    refine aa.lf 2 0 8 _ rfl rfl ?_
    simp only[go_sem]
    refine aa.weaken ?_ (hc1 0);(try simp only[go_sem,he,List.length_nil,List.map_nil,lz]);(repeat'(first|refine And.intro ?_ ?_|trivial|exact .inr (aR rfl)));done))
 |refine aa.aj fun K hK=>?_
 |(
  refine aa.here 1 5 5 rfl ?_
  first
  |(have h0:=hc1;clear h0;refine aa.bA ?_;refine an.at 5 2 rfl ?_;simp only[go_sem])
  |(refine aa.cutAt (ι:=Nat) [5,6,7,8] (fun(m:Nat)=>[]) (fun(m:Nat)=>[some [.agg [eB g.ao,bT g.aT,bl g.kill,i64 g.now,i64 g.pat]],some [.agg [.aQ,.aQ,bl false,i64 0,i64 0]],some [.agg [.mu 4 8 0 g.ao.length (g.ao.length+m),bT g.aT,bl g.kill,i64 g.now,i64 g.pat]],some [.agg [.aQ,.aQ,bl false,i64 0,i64 0]],some (g.ao.map aS++spare 8 m)]) (fun(m:Nat)=>[]) hK (fun m=>?_) (fun hc1=>?_)))
 |(refine Cut.mk ?_;simp only[go_sem])
 |(
  refine aa.here 3 15 3 rfl ?_
  refine aa.eX 5 0 (jd:=4) (k:=8) (n:=g.ao.length) (cap:=g.ao.length+m) _ (g.ao.map aS++spare 8 m) ay rfl rfl rfl (by simp[cJ]) (by rw[fh];exact fw _) ?_
  rw[fh]
  simp only[go_sem]
  refine aa.region ?_;simp only[go_sem])
 |(
  refine aa.here 4 16 7 rfl ?_
  obtain⟨k,v,rfl,hx⟩:=fk ae
  have hn:=bM hx
  have hx2:(g.ao.map aS++spare 8 m)[k]?=some (aS v):=by rw[List.getElem?_append_left (by simpa using bM hx),List.getElem?_map,hx];rfl
  refine aa.region ?_;simp only[go_sem])
 |(
  refine aa.here 5 22 3 rfl ?_
  rw[show(g.ao.map aS++spare 8 m).set k (.agg [aV v.book.ak,cg v.book.al,.sl none 1 (v.book.ids.map str),i64 v.book.clock,i64 v.book.bad,aV v.ax,i64 v.last,bl b])=(g.ao.set k ⟨v.book,v.ax,v.last,b⟩).map aS++spare 8 m from mf (v:=⟨v.book,v.ax,v.last,b⟩) hn]
  refine aa.eX 5 0 (jd:=4) (k:=8) (n:=g.ao.length) (cap:=g.ao.length+m) _ ((g.ao.set k ⟨v.book,v.ax,v.last,b⟩).map aS++spare 8 m) ay rfl rfl rfl (by simp[cJ]) (by rw[fL];exact fw _) ?_
  rw[fL]
  simp only[go_sem]
  refine aa.region ?_;simp only[go_sem])
 |(
  refine aa.here 5 15 5 rfl ?_
  obtain⟨v,hx⟩:∃v,g.ao[i]?=some v:=⟨_,List.getElem?_eq_getElem ab⟩
  have hv:=hg.2.2 v (List.mem_of_getElem? hx)
  have hx2:(g.ao.map aS++spare 8 m)[i]?=some (aS v):=by rw[List.getElem?_append_left (by simpa using bM hx),List.getElem?_map,hx];rfl
  refine aa.region ?_;simp only[go_sem])
 |(
  refine aa.here 7 29 11 rfl ?_
  (try rw[cZ hx])
  refine aa.region ?_;simp only[go_sem])
 |(
  refine aa.here 8 39 11 rfl ?_
  (try rw[cZ hx])
  refine aa.region ?_;simp only[go_sem])
 |(
  refine aa.here 9 49 9 rfl ?_
  (try rw[cZ hx])
  refine aa.region ?_;simp only[go_sem])
 |(
  refine aa.here 10 57 2 rfl ?_
  (try rw[cZ hx])
  refine aa.region ?_;simp only[go_sem])
 |(
  refine aa.here 3 5 4 rfl ?_
  refine aa.bA ?_
  refine an.iY eN ?_
  simp only[go_sem]
  refine an.at 3 1 rfl ?_
  simp only[go_sem]
  refine an.kj jE eN rfl rfl rfl (by simp;omega) (by simp;omega) ?_
  intro m
  simp only[go_sem]
  refine an.of ?_
  simp only[go_sem])
 |(refine aa.here 1 9 4 rfl ?_;refine aa.bA ?_;refine an.at 4 1 rfl ?_;simp only[go_sem])
 |(refine aa.region ?_;simp only[go_sem])
 |(refine hK _ ?_;clear hK K)
 |refine aa.block ?_
 |refine aa.cond rfl (fun c=>?_) (fun c=>?_)<;>(try simp only[dD] at c)
 |refine aa.skip ?_
 |(refine aa.exit ?_;simp only[go_sem])
 |(refine ah.one (ig g n hgi) af rfl ?_;simp only[go_sem])
 |(refine ah.one (fq v.book.ak hv.1) af rfl ?_;simp only[go_sem])
 |(refine ah.one (fq v.ax hv.2.2.2) af rfl ?_;simp only[go_sem])
 |(refine ah.one (kh v.book.al hv.2.1) af rfl ?_;simp only[go_sem])
 |(refine ah.one (kg v.book.ids hv.2.2.1) af rfl ?_;simp only[go_sem])
 |(refine ah.one (lD g.aT hg2) af rfl ?_;simp only[go_sem])
 |(refine an.call (rs:=[.cell 2 58]) Tryz.func76 rfl Tryz.ntmps76 rfl af rfl rfl ?_;simp only[go_sem])
 |(refine an.call (rs:=[.tmp 2]) Tryz.func144 rfl Tryz.ntmps144 rfl af rfl rfl ?_;simp only[go_sem])
 |(refine aM.bG ae ?_;(try simp only[go_sem]))
 |(refine aM.gj ae ?_;(try simp only[go_sem]))
 |((with_reducible refine And.intro ?_ ?_);(focus(first|omega|(simp;done)));(try simp only[hb,go_sem]))
 |(
  refine aa.here 3 13 1 rfl ?_
  refine aa.cC (ι:=Nat) [3,4,13,14,15,16,17,18,19,20,21,22,23,24,25,26,27,28,29,30,31,32,33,34,35,36,37,38,39,40,41,42,43,44,45,46,47,48,49,50,51,52,53,54,55,56,57] (fun(i:Nat)=>[(12,i64 i)]) (fun(i:Nat)=>i≤g.ao.length) (fun(i:Nat)=>g.ao.length-i) (0) ?_ ?_ ?_
  ·(try simp only[go_sem]);(repeat'(first|refine And.intro ?_ ?_|trivial|exact .inr (aR rfl)|exact .inr dN));done
  ·omega
  rintro i h1
  simp only[go_sem])
 |(
  refine⟨i+1,?_,?_,?_⟩
  ·(try simp only[go_sem]);(try rw[av ab ab]);(repeat'(first|refine And.intro ?_ ?_|exact .inr rfl|trivial|exact .inr (aR rfl)|exact .inr dN));done
  ·omega
  ·(try simp only[]);omega)
 |(
  refine aa.ret ?_
  refine aB.is ?_;simp only[go_sem,aE,aI,aH,aG,aJ,aF]<;>(first|(rw[sL ae];simp;done)|(rw[tz ae hx];simp[cq];done)))
 |(refine aa.ret ?_;refine bR.ret rfl ?_;simp only[go_sem])
 |(refine aa.ret ?_;simp only[gr,gv];refine bR.ret rfl ?_;simp only[go_sem])
 |(refine an.of ?_;simp only[go_sem])
 |((fail_if_success(have:=hbb));(with_reducible intro bb hbb))
 |refine aa.fin ae ?_)
theorem QO(g:Gt)(n:Int)(hg:bP g):ai E 90 [aO g,i64 n] (fun r t=>r= .aC [aO (gR g n).1,i64 (gR g n).2]∧t=[]):=by
 have hgi:=hg.fit
 have hg1:=hg.1
 have hg2:=hg.2.1
 refine ai.aw (n:=30) (rs:=[.cell 4 58,.tmp 5]) Tryz.func90 rfl Tryz.ntmps90 rfl ?_
 repeat'(first
 |(
  refine aa.ky hc1 ?_
  first
  |(refine aa.iN [0,1,2,3,5] ay rfl rfl ?_;simp only[go_sem,lM,List.length_map];refine aa.weaken ?_ (hc1 m);(try simp only[go_sem]);(repeat'(first|refine And.intro ?_ ?_|trivial|exact .inr (aR rfl)|exact .inr dN));done)
  |(have he:g.ao=[]:=Classical.byContradiction fun hne=>by
     have:=hbb (by simpa using hne)
     simp_all
    refine aa.lf 2 0 8 _ rfl rfl ?_
    simp only[go_sem]
    refine aa.weaken ?_ (hc1 0);(try simp only[go_sem,he,List.length_nil,List.map_nil,lz]);(repeat'(first|refine And.intro ?_ ?_|trivial|exact .inr (aR rfl)));done))
 |refine aa.aj fun K hK=>?_
 |(
  refine aa.here 1 5 5 rfl ?_
  first
  |(have h0:=hc1;clear h0;refine aa.bA ?_;refine an.at 5 2 rfl ?_;simp only[go_sem])
  |(refine aa.cutAt (ι:=Nat) [5,6,7,8] (fun(m:Nat)=>[]) (fun(m:Nat)=>[some [.agg [eB g.ao,bT g.aT,bl g.kill,i64 g.now,i64 g.pat]],some [.agg [.aQ,.aQ,bl false,i64 0,i64 0]],some [.agg [.mu 4 8 0 g.ao.length (g.ao.length+m),bT g.aT,bl g.kill,i64 g.now,i64 g.pat]],some [.agg [.aQ,.aQ,bl false,i64 0,i64 0]],some (g.ao.map aS++spare 8 m)]) (fun(m:Nat)=>[]) hK (fun m=>?_) (fun hc1=>?_)))
 |(refine Cut.mk ?_;simp only[go_sem])
 |(
  refine aa.here 3 13 3 rfl ?_
  refine aa.eX 5 0 (jd:=4) (k:=8) (n:=g.ao.length) (cap:=g.ao.length+m) _ (g.ao.map aS++spare 8 m) ay rfl rfl rfl (by simp[cJ]) (by rw[fh];exact fw _) ?_
  rw[fh]
  simp only[go_sem]
  refine aa.region ?_;simp only[go_sem])
 |(
  refine aa.here 4 14 8 rfl ?_
  obtain⟨k,v,rfl,hx⟩:=fk ae
  have hn:=bM hx
  have hx2:(g.ao.map aS++spare 8 m)[k]?=some (aS v):=by rw[List.getElem?_append_left (by simpa using bM hx),List.getElem?_map,hx];rfl
  refine aa.region ?_;simp only[go_sem])
 |(
  refine aa.here 5 22 3 rfl ?_
  refine aa.eX 5 0 (jd:=4) (k:=8) (n:=g.ao.length) (cap:=g.ao.length+m) _ (g.ao.map aS++spare 8 m) ay rfl rfl rfl (by simp[cJ]) (by rw[fh];exact fw _) ?_
  rw[fh]
  simp only[go_sem]
  refine aa.region ?_;simp only[go_sem])
 |(
  refine aa.here 7 29 3 rfl ?_
  rw[show(g.ao.map aS++spare 8 m).set k (.agg [aV v.book.ak,cg v.book.al,.sl none 1 (v.book.ids.map str),i64 v.book.clock,i64 0,aV v.ax,i64 v.last,bl v.bB])=(g.ao.set k ⟨⟨v.book.ak,v.book.al,v.book.ids,v.book.clock,0⟩,v.ax,v.last,v.bB⟩).map aS++spare 8 m from mf (v:=⟨⟨v.book.ak,v.book.al,v.book.ids,v.book.clock,0⟩,v.ax,v.last,v.bB⟩) hn]
  refine aa.eX 5 0 (jd:=4) (k:=8) (n:=g.ao.length) (cap:=g.ao.length+m) _ ((g.ao.set k ⟨⟨v.book.ak,v.book.al,v.book.ids,v.book.clock,0⟩,v.ax,v.last,v.bB⟩).map aS++spare 8 m) ay rfl rfl rfl (by simp[cJ]) (by rw[fL];exact fw _) ?_
  rw[fL]
  simp only[go_sem]
  refine aa.region ?_;simp only[go_sem])
 |(
  refine aa.here 5 15 5 rfl ?_
  obtain⟨v,hx⟩:∃v,g.ao[i]?=some v:=⟨_,List.getElem?_eq_getElem ab⟩
  have hv:=hg.2.2 v (List.mem_of_getElem? hx)
  have hx2:(g.ao.map aS++spare 8 m)[i]?=some (aS v):=by rw[List.getElem?_append_left (by simpa using bM hx),List.getElem?_map,hx];rfl
  refine aa.region ?_;simp only[go_sem])
 |(
  refine aa.here 7 29 11 rfl ?_
  (try rw[cZ hx])
  refine aa.region ?_;simp only[go_sem])
 |(
  refine aa.here 8 39 11 rfl ?_
  (try rw[cZ hx])
  refine aa.region ?_;simp only[go_sem])
 |(
  refine aa.here 9 49 9 rfl ?_
  (try rw[cZ hx])
  refine aa.region ?_;simp only[go_sem])
 |(
  refine aa.here 10 57 2 rfl ?_
  (try rw[cZ hx])
  refine aa.region ?_;simp only[go_sem])
 |(
  refine aa.here 3 5 4 rfl ?_
  refine aa.bA ?_
  refine an.iY eN ?_
  simp only[go_sem]
  refine an.at 3 1 rfl ?_
  simp only[go_sem]
  refine an.kj jE eN rfl rfl rfl (by simp;omega) (by simp;omega) ?_
  intro m
  simp only[go_sem]
  refine an.of ?_
  simp only[go_sem])
 |(refine aa.here 1 7 4 rfl ?_;refine aa.bA ?_;refine an.at 4 1 rfl ?_;simp only[go_sem])
 |(refine aa.region ?_;simp only[go_sem])
 |(refine hK _ ?_;clear hK K)
 |refine aa.block ?_
 |refine aa.cond rfl (fun c=>?_) (fun c=>?_)<;>(try simp only[dD] at c)
 |refine aa.skip ?_
 |(refine aa.exit ?_;simp only[go_sem])
 |(refine ah.one (ig g n hgi) af rfl ?_;simp only[go_sem])
 |(refine ah.one (fq v.book.ak hv.1) af rfl ?_;simp only[go_sem])
 |(refine ah.one (fq v.ax hv.2.2.2) af rfl ?_;simp only[go_sem])
 |(refine ah.one (kh v.book.al hv.2.1) af rfl ?_;simp only[go_sem])
 |(refine ah.one (kg v.book.ids hv.2.2.1) af rfl ?_;simp only[go_sem])
 |(refine ah.one (lD g.aT hg2) af rfl ?_;simp only[go_sem])
 |(refine an.call (rs:=[.cell 2 58]) Tryz.func76 rfl Tryz.ntmps76 rfl af rfl rfl ?_;simp only[go_sem])
 |(refine an.call (rs:=[.tmp 2]) Tryz.func144 rfl Tryz.ntmps144 rfl af rfl rfl ?_;simp only[go_sem])
 |(refine aM.bG ae ?_;(try simp only[go_sem]))
 |(refine aM.gj ae ?_;(try simp only[go_sem]))
 |((with_reducible refine And.intro ?_ ?_);(focus(first|omega|(simp;done)));(try simp only[hb,go_sem]))
 |(
  refine aa.here 3 13 1 rfl ?_
  refine aa.cC (ι:=Nat) [3,4,13,14,15,16,17,18,19,20,21,22,23,24,25,26,27,28,29,30,31,32,33,34,35,36,37,38,39,40,41,42,43,44,45,46,47,48,49,50,51,52,53,54,55,56,57] (fun(i:Nat)=>[(12,i64 i)]) (fun(i:Nat)=>i≤g.ao.length) (fun(i:Nat)=>g.ao.length-i) (0) ?_ ?_ ?_
  ·(try simp only[go_sem]);(repeat'(first|refine And.intro ?_ ?_|trivial|exact .inr (aR rfl)|exact .inr dN));done
  ·omega
  rintro i h1
  simp only[go_sem])
 |(
  refine⟨i+1,?_,?_,?_⟩
  ·(try simp only[go_sem]);(try rw[av ab ab]);(repeat'(first|refine And.intro ?_ ?_|exact .inr rfl|trivial|exact .inr (aR rfl)|exact .inr dN));done
  ·omega
  ·(try simp only[]);omega)
 |(
  refine aa.ret ?_
  refine aB.is ?_;simp only[go_sem,aE,aI,aH,aG,aJ,aF]<;>(first|(rw[sF ae];simp;done)|(rw[vf ae hx ae];simp;done)|(rw[vX ae hx ae];simp[cq];done)))
 |(refine aa.ret ?_;refine bR.ret rfl ?_;simp only[go_sem])
 |(refine aa.ret ?_;simp only[gr,gv];refine bR.ret rfl ?_;simp only[go_sem])
 |(refine an.of ?_;simp only[go_sem])
 |((fail_if_success(have:=hbb));(with_reducible intro bb hbb))
 |refine aa.fin ae ?_)
end Go.Proofs.YtajeeghgiilhiaaGreat
end
section
namespace Go.Bk
open Go Go.Abs
def dJ(o:Od):Od:=⟨o.id,o.acc,o.sym,o.az,o.aq,o.aA,0,true⟩
def eM(v:Vn)(id:Bs):Bool:=hasB v.book.ak id||hasB v.ax id
def fg(v:Vn)(o:Od):Vn:=⟨v.book,v.ax++[o],v.last,v.bB⟩
def eL(g:Gt)(n:Int)(o:Od):Gt×Int×Int:=
 if ba g n=true∧bw (dJ o)=true then(match g.ao[n.toNat]? with
  |some v=>if eM v o.id then(g,0,7) else if dy g v (dJ o)≠0 then(g,dy g v (dJ o),0) else(cq g n.toNat (fg v (dJ o)),0,0)
  |none=>(g,0,1)) else(g,0,1)
theorem re{g:Gt}{n:Int}{o:Od}(h:ba g n=false):eL g n o=(g,0,1):=if_neg (by simp[h])
theorem vD{g:Gt}{n:Int}{o:Od}(h:bw (dJ o)=false):eL g n o=(g,0,1):=if_neg (by simp[h])
theorem pw{g:Gt}{k:Nat}{o:Od}{v:Vn}(h:ba g (k:Int)=true)(hm:bw (dJ o)=true)(hx:g.ao[k]?=some v):
 eL g (k:Int) o=if eM v o.id then(g,0,7) else if dy g v (dJ o)≠0 then(g,dy g v (dJ o),0) else(cq g k (fg v (dJ o)),0,0):=by
 unfold eL;rw[if_pos ⟨h,hm⟩,Int.toNat_natCast,hx]
theorem XA{g:Gt}{k:Nat}{o:Od}{v:Vn}(h:ba g (k:Int)=true)(hm:bw (dJ o)=true)(hx:g.ao[k]?=some v)(hk:eM v o.id=true):eL g (k:Int) o=(g,0,7):=by rw[pw h hm hx,if_pos hk]
theorem FP{g:Gt}{k:Nat}{o:Od}{v:Vn}(h:ba g (k:Int)=true)(hm:bw (dJ o)=true)(hx:g.ao[k]?=some v)(hk:eM v o.id=false)(hw:¬dy g v (dJ o)=0):eL g (k:Int) o=(g,dy g v (dJ o),0):=by
 rw[pw h hm hx,if_neg (by simp[hk]),if_pos hw]
theorem Ro{g:Gt}{k:Nat}{o:Od}{v:Vn}(h:ba g (k:Int)=true)(hm:bw (dJ o)=true)(hx:g.ao[k]?=some v)(hk:eM v o.id=false)(hw:dy g v (dJ o)=0):eL g (k:Int) o=(cq g k (fg v (dJ o)),0,0):=by
 rw[pw h hm hx,if_neg (by simp[hk]),if_neg (by simp[hw])]
def eZ(o:Od)(id:Bs)(aq aA:Int):Od:=⟨id,o.acc,o.sym,o.az,aq,aA,o.done,o.bq⟩
def lH(o:Od)(id:Bs)(aq aA:Int):Od:=⟨id,o.acc,o.sym,o.az,aq-o.done,aA,0,o.bq⟩
def eo(g:Gt)(n:Int)(old id:Bs)(aq aA:Int):Gt×Int×Int:=
 if ba g n=true then(match g.ao[n.toNat]? with
  |some v=>if(findF v.book.ak old).2=false∨(findF v.book.ak old).1.bq=false then(g,0,6)
   else if bw (eZ (findF v.book.ak old).1 id aq aA)=false then(g,0,1)
   else if eM v id then(g,0,7)
   else if dy g v (lH (findF v.book.ak old).1 id aq aA)≠0 then(g,dy g v (lH (findF v.book.ak old).1 id aq aA),0)
   else(cq g n.toNat (fg v (eZ (findF v.book.ak old).1 id aq aA)),0,0)
  |none=>(g,0,1)) else(g,0,1)
theorem rk{g:Gt}{n:Int}{old id:Bs}{q p:Int}(h:ba g n=false):eo g n old id q p=(g,0,1):=if_neg (by simp[h])
theorem ku{g:Gt}{k:Nat}{old id:Bs}{q p:Int}{v:Vn}(h:ba g (k:Int)=true)(hx:g.ao[k]?=some v):eo g (k:Int) old id q p =
 if(findF v.book.ak old).2=false∨(findF v.book.ak old).1.bq=false then(g,0,6)
  else if bw (eZ (findF v.book.ak old).1 id q p)=false then(g,0,1)
  else if eM v id then(g,0,7)
  else if dy g v (lH (findF v.book.ak old).1 id q p)≠0 then(g,dy g v (lH (findF v.book.ak old).1 id q p),0)
  else(cq g k (fg v (eZ (findF v.book.ak old).1 id q p)),0,0):=by
 unfold eo;rw[if_pos h,Int.toNat_natCast,hx]
def ic(x:Ex)(o:Od):Bool:=decide (o.id=x.ord)&&decide (o.acc=x.acc)&&decide (o.sym=x.sym)&&decide (o.az=x.az)&&decide (o.aq=x.aq)&&decide (o.aA=x.aA)&&(decide (o.done=0)||decide (x.kind=4))
def eK(l:List Od)(x:Ex):Option Nat:=l.findIdx? (ic x)
def jB(x:Ex):Bool:=decide (x.kind=1)||decide (x.kind=4)
def js(v:Vn)(x:Ex):Vn:=⟨⟨v.book.ak,v.book.al,v.book.ids++[x.id],v.book.clock,2⟩,v.ax,v.last,v.bB⟩
def kW(g:Gt)(v:Vn)(x:Ex)(b:Bk)(k:Int):Vn×Int:=
 if jB x then(match eK v.ax x with
  |none=>(js v x,3)
  |some p=>if k=1 then(⟨b,v.ax.eraseIdx p,g.now,v.bB⟩,1) else(⟨b,v.ax,v.last,v.bB⟩,k))
 else if k=1 then(⟨b,v.ax,g.now,v.bB⟩,1) else(⟨b,v.ax,v.last,v.bB⟩,k)
def cr(g:Gt)(n:Int)(x:Ex):Gt×Int×Int:=
 if ba g n=true then(match g.ao[n.toNat]? with
  |some v=>
   if(bj v.book x).2=2∨(bj v.book x).2=4 then(g,(bj v.book x).2,0)
   else if(bj v.book x).2=1∨(bj v.book x).2=3 then(cq g n.toNat (kW g v x (bj v.book x).1 (bj v.book x).2).1,(kW g v x (bj v.book x).1 (bj v.book x).2).2,0)
   else(g,0,1)
  |none=>(g,0,1)) else(g,0,1)
theorem sj{g:Gt}{n:Int}{x:Ex}(h:ba g n=false):cr g n x=(g,0,1):=if_neg (by simp[h])
theorem mW{g:Gt}{k:Nat}{x:Ex}{v:Vn}(h:ba g (k:Int)=true)(hx:g.ao[k]?=some v):cr g (k:Int) x =
 if(bj v.book x).2=2∨(bj v.book x).2=4 then(g,(bj v.book x).2,0)
  else if(bj v.book x).2=1∨(bj v.book x).2=3 then(cq g k (kW g v x (bj v.book x).1 (bj v.book x).2).1,(kW g v x (bj v.book x).1 (bj v.book x).2).2,0)
  else(g,0,1):=by
 unfold cr;rw[if_pos h,Int.toNat_natCast,hx]
def zeroV:Vn:=⟨⟨[],[],[],0,0⟩,[],0,false⟩
def oB(n p:Int):Gt×Int:=if n<1∨4<n∨cK p=false then(⟨[],[],false,0,0⟩,1) else(⟨List.replicate n.toNat zeroV,[],false,0,p⟩,0)
theorem jX{n p:Int}(h:n<1∨4<n∨cK p=false):oB n p=(⟨[],[],false,0,0⟩,1):=if_pos h
theorem qc{n p:Int}(h1:1≤n)(h2:n≤4)(h:cK p=true):oB n p=(⟨List.replicate n.toNat zeroV,[],false,0,p⟩,0):=if_neg (by rw[h];simp;omega)
def bn(l:List Lm)(x:Lm):Nat:=(l.takeWhile fun y=>decide (bH y x<0)).length
def df(l:List Lm)(x:Lm):List Lm×Int:=
 if cd l=true∧eC x=true then
  (match l[bn l x]? with
  |some y=>if bH y x=0 then(l.set (bn l x) x,0) else if l.length=32 then(l,5) else(l.take (bn l x)++x::l.drop (bn l x),0)
  |none=>if l.length=32 then(l,5) else(l.take (bn l x)++x::l.drop (bn l x),0))
 else(l,1)
def fA(g:Gt)(x:Lm):Gt×Int:=if bt g=true then(if(df g.aT x).2=0 then(⟨g.ao,(df g.aT x).1,g.kill,g.now,g.pat⟩,0) else(g,(df g.aT x).2)) else(g,1)
theorem qX{l:List Lm}{x:Lm}(h:¬(cd l=true∧eC x=true)):df l x=(l,1):=if_neg h
theorem Nz{x:Lm}(h:eC x=true):df [] x=([x],0):=by
 unfold df;rw[if_pos ⟨by decide,h⟩];rfl
theorem vA{g:Gt}{x:Lm}(h:bt g=false):fA g x=(g,1):=if_neg (by simp[h])
end Go.Bk
end
section
namespace Go.Abs
open Go Go.RowKit
theorem an.Jh{E:Env}{Q:Exit→St→Prop}{st:St}{ops:Array Oper}{l:List Oper}{dst:Option Tmp}{t ty:TypeId}{pos:String}{after:Array Edge}{x y:Operand}{kl kc:IntKind}{e:TypeId}{k n m:Nat}{zs zs':List AV}
 (hai:dd E.P t=some (e,k,n)) (hzv:eJ E.P e=some zs) (hx:st.ev x= .v (.int kl (m:Int))) (hy:st.ev y= .v (.int kc (m:Int))) (hl:zs'.length=zs.length) (hzz:∀(j:Nat) (z z':AV),zs[j]?=some z→zs'[j]?=some z'→z'=z∨(z= .aQ∧∃q,z'= .sl none q [])) (hm:m≤1000) (hk:k≤1000) (hn:n≤100000)
 (h:an E ops l Q (St.put { st with tk:=st.tk++[m] } dst (.sl (some st.tk.length) k (List.replicate m (.agg zs'))))):an E ops (⟨dst,.makeSlice t x y,ty,pos,after,none⟩::l) Q st:=by
 intro w0 im0 cx a w h0 hG r
 refine wpList_step (fun K' hK'=>?_)
 have hw:Region.wanted ⟨dst,.makeSlice t x y,ty,pos,after,none⟩ (yielded ops a.tmps)=true:=rfl
 rw[if_pos hw]
 obtain⟨hu,hs,hk0,i,zv,hi,hz,hsize,hbytes,hzs⟩:=jf hai
 have hzl:zs=zv.cells.toList.map jv∧zs.all AV.fb=true:=by
  unfold eJ at hzv
  simp only[hi,hz,Option.bind_some] at hzv
  split at hzv
  ·rename_i hall
   simp only[Option.some.injEq] at hzv
   exact⟨hzv.symm,by rw[←hzv];exact hall⟩
  ·simp at hzv
 have ex:a.eval x= .int kl (m:Int):=by have:=r.ev x;rw[hx] at this;exact this.bD
 have ey:a.eval y= .int kc (m:Int):=by have:=r.ev y;rw[hy] at this;exact this.bD
 have hsz:m*i.size≤16777216:=by rw[hsize];exact Nat.le_trans (Nat.mul_le_mul hm hk) ay
 have hby:(i.bytes:Int)*(m:Int)≤281474976710656:=by
  rw[hbytes]
  have:n*m≤100000*1000:=Nat.mul_le_mul hn hm
  have h2:((n*m:Nat):Int)≤281474976710656:=by omega
  rwa[Int.natCast_mul] at h2
 have hrun:=run_makeSlice (P:=E.P) (w:=w) t e i zv hu hi hz kl kc (m:Int) (m:Int) ab (Int.le_refl _) (by simpa using hsz) hby ab
 simp only[Int.toNat_natCast] at hrun
 have hlen:zs.length=k:=by rw[hzl.1];simp[hzs]
 have hcells:Cells cx.im k (List.replicate m (.agg zs')) (madeCells zv.cells (m*i.size)).toList:=by
  refine⟨fun j z hj=>?_,fun j z q u hj hq=>?_⟩
  ·rw[List.getElem?_replicate] at hj
   split at hj
   ·simp only[Option.some.injEq] at hj;subst hj;exact hl.trans hlen
   ·simp at hj
  ·rw[List.getElem?_replicate] at hj
   split at hj
   ·rename_i hjm
    simp only[Option.some.injEq] at hj;subst hj
    have hq0:zs'[q]?=some u:=hq
    have hqk:q<k:=by rw[←hlen,←hl];exact bN hq0
    obtain⟨z,hq1⟩:∃z,zs[q]?=some z:=⟨_,List.getElem?_eq_getElem ab⟩
    have hqz:q<zv.cells.size:=by omega
    have hu1:z=jv zv.cells[q]:=by
     rw[hzl.1,List.getElem?_map] at hq1
     simp[hqz] at hq1
     exact hq1.symm
    have hlt:j*k+q<m*i.size:=by rw[hsize];exact lZ hjm hqk
    have hmod:(j*k+q)%zv.cells.size=q:=by rw[hzs,Nat.mul_comm,Nat.mul_add_mod,Nat.mod_eq_of_lt hqk]
    refine⟨zv.cells[q],?_,?_⟩
    ·simp only[madeCells,Array.toList_map,List.getElem?_map,Array.toList_range,List.getElem?_range hlt,Option.map_some,hmod]
     simp[hqz]
    ·have hv:aX cx.im z zv.cells[q]:=by rw[hu1];exact p9 _ _
     have hlf:z.fb=true:=List.all_eq_true.1 hzl.2 z (List.mem_of_getElem? hq1)
     refine⟨?_,VR.fb (c:=cx) (.base hv) hlf⟩
     rcases hzz q z u hq1 hq0 with rfl|⟨rfl,p,rfl⟩
     ·exact hv
     ·have:=(VR.base (c:=cx) hv).ek
      rw[this];exact .dw p none 0
   ·simp at hj
 obtain⟨c',hle,r2,hv⟩:=r.rE (qm w (.cells (madeCells zv.cells (m*i.size)) e)) (g:=w.heap.size) (k:=k) (cap:=m) (es:=List.replicate m (.agg zs')) (Nat.le_refl _) (lL w _) (.inl rfl)
  (by rw[size_madeCells,hsize];exact Nat.le_refl _) aD hcells
 rw[List.length_replicate] at r2 hv
 refine eT (w':=w.alloc (.cells (madeCells zv.cells (m*i.size)) e)) (v:= .slice (some ⟨w.heap.size,0,none⟩) m m) ?_ (hK' _ _ (h w0 im0 _ _ _ h0 hG (r2.put dst hv)))
 simp only[execOp,ex,ey,Sem.run_bind,hrun,Result.andThen_ok,Sem.run_pure]
end Go.Abs
end
section
namespace Go.Proofs.YtajeeghgiilhiaaGreat
open Go Go.Abs Go.RowKit Go.Bk
theorem zT{g:Gt}{x:Lm}(h:bt g=true)(h2:¬(df g.aT x).2=0):fA g x=(g,(df g.aT x).2):=by unfold fA;rw[if_pos h,if_neg h2]
theorem AT{g:Gt}{x:Lm}(h:bt g=true)(h2:(df g.aT x).2=0):fA g x=(⟨g.ao,(df g.aT x).1,g.kill,g.now,g.pat⟩,0):=by unfold fA;rw[if_pos h,if_pos h2]
theorem W9:cd []=true:=by decide
theorem EO{x:Lm}(h:eC x=false):df [] x=([],1):=qX (fun e=>by rw[h] at e;exact absurd e.2 aD)
theorem DI:∀(j:Nat) (z z':AV),([.aQ,.aQ,.aQ,.v (.int .i64 0),.v (.int .i64 0),.aQ,.v (.int .i64 0),.v (.bool false)]:List AV)[j]?=some z→([.sl none 8 [],.sl none 9 [],.sl none 1 [],i64 0,i64 0,.sl none 8 [],i64 0,bl false]:List AV)[j]?=some z'→z'=z∨(z= .aQ∧∃q,z'= .sl none q []):=by
 intro j z z' h1 h2
 match j with
 |0=>cases h1;cases h2;exact .inr ⟨rfl,_,rfl⟩
 |1=>cases h1;cases h2;exact .inr ⟨rfl,_,rfl⟩
 |2=>cases h1;cases h2;exact .inr ⟨rfl,_,rfl⟩
 |3=>cases h1;cases h2;exact .inl rfl
 |4=>cases h1;cases h2;exact .inl rfl
 |5=>cases h1;cases h2;exact .inr ⟨rfl,_,rfl⟩
 |6=>cases h1;cases h2;exact .inl rfl
 |7=>cases h1;cases h2;exact .inl rfl
 |j+8=>simp at h1
theorem jL(n p:Int):ai E 27 [i64 n,i64 p] (fun r t=>r= .aC [aO (oB n p).1,i64 (oB n p).2]∧t=[]):=by
 refine ai.aw (n:=22) (rs:=[.cell 4 58,.tmp 5]) Tryz.func27 rfl Tryz.ntmps27 rfl ?_
 repeat'(first
 |refine aa.aj fun K hK=>?_
 |(
  refine aa.here 3 18 6 rfl ?_
  have hnn:∃m:Nat,n=(m:Int)∧1≤m∧m≤4:=⟨n.toNat,by omega,by omega,by omega⟩
  obtain⟨m,rfl,hm1,hm4⟩:=hnn
  refine aa.bA ?_
  refine an.at 6 1 rfl ?_
  simp only[go_sem]
  refine an.Jh (m:=m) (zs':=[.sl none 8 [],.sl none 9 [],.sl none 1 [],i64 0,i64 0,.sl none 8 [],i64 0,bl false]) eN yj rfl rfl rfl DI ab ay ay ?_
  simp only[go_sem]
  refine an.of ?_
  simp only[go_sem])
 |(refine aa.region ?_;simp only[go_sem])
 |(refine hK _ ?_;clear hK K)
 |refine aa.cond rfl (fun c=>?_) (fun c=>?_)<;>first|exact Bool.noConfusion c|(try simp only[dD] at c)
 |refine aa.skip ?_
 |(refine ah.one (sW _) af rfl ?_;simp only[go_sem])
 |(refine aL.cc (fun h=>?_) (fun h=>?_)<;>simp only[h,go_sem]<;>(try simp only[dD] at h))
 |(
  refine aa.ret ?_
  refine aB.is ?_;simp only[go_sem,aE,aI,aH,aG,aJ,aF,eB,bT]<;>(first|(rw[jX (.inl ae)];simp;done)|(rw[jX (.inr (.inl ae))];simp;done)|(rw[jX (.inr (.inr ae))];simp;done)|(rw[qc ab ab ae];simp[zeroV];done))))
theorem UE(x:Lm):ai E 77 [.sl none 6 [],br x] (fun r t=>r= .aC [bT (df [] x).1,i64 (df [] x).2]∧t=[]):=by
 refine ai.aw (n:=41) (rs:=[.tmp 4,.tmp 5]) Tryz.func77 rfl Tryz.ntmps77 rfl ?_
 repeat'(first
 |refine aa.aj fun K hK=>?_
 |(refine ah.of (wg [] ay) af rfl ?_;rintro r t ⟨rfl,rfl⟩;simp only[go_sem])
 |(refine ah.one (rm [] ay) af rfl ?_;simp only[go_sem])
 |(refine ah.one (uZ x) af rfl ?_;simp only[go_sem])
 |(refine an.call (rs:=[.tmp 6,.tmp 7]) Tryz.func147 rfl Tryz.ntmps147 rfl af rfl rfl ?_;simp only[go_sem])
 |(refine an.call (rs:=[.tmp 6]) Tryz.func149 rfl Tryz.ntmps149 rfl af rfl rfl ?_;simp only[go_sem])
 |(refine aa.here 4 21 8 rfl ?_;refine aa.bA ?_;refine an.at 8 2 rfl ?_;simp only[go_sem])
 |(refine aa.here 10 36 7 rfl ?_;refine aa.bA ?_;refine an.at 7 4 rfl ?_;simp only[go_sem])
 |(refine aa.region ?_;simp only[go_sem])
 |(refine aa.here 8 35 16 rfl ?_;refine aa.bf [0,1,2,3,4,5,6,7,8,9,10,11,12,13,14,15] [] af af rfl ?_;simp only[go_sem])
 |(refine hK _ ?_;clear hK K)
 |refine aa.block ?_
 |refine aa.cond rfl (fun c=>?_) (fun c=>?_)<;>first|exact Bool.noConfusion c|(try simp only[dD] at c)
 |refine aa.skip ?_
 |(refine aa.exit ?_;simp only[go_sem])
 |(refine aL.split (fun h=>?_) (fun h=>?_)<;>simp only[h,go_sem]<;>(try simp only[dD] at h))
 |((with_reducible refine And.intro ?_ ?_);(focus((simp;done)));(try simp only[hb,go_sem]))
 |(
  refine aa.here 3 15 3 rfl ?_
  refine aa.cC (ι:=Nat) [11,15,16,17,18,19,20,21,22,23,24,25,26,27,28,29,30,31,32,33,34] (fun(i:Nat)=>[(9,i64 i),(10,i64 i)]) (fun(i:Nat)=>i=0) (fun(i:Nat)=>0) (0) ?_ ?_ ?_
  ·(try simp only[go_sem]);(repeat'(exact .inr (aR rfl)));done
  ·rfl
  rintro i rfl
  simp only[go_sem])
 |(
  refine aa.ret ?_
  refine aB.is ?_;simp only[go_sem,aE,aI,aH,aG,aJ,aF]<;>(first|(rw[EO ae];exact⟨rfl,rfl⟩)|(rw[Nz ae];exact⟨rfl,rfl⟩)|(exfalso;have hr:cd []=true:=W9;simp_all;done)))
 |(refine aa.ret ?_;refine bR.ret rfl ?_;simp only[go_sem])
 |(refine aa.ret ?_;simp only[gr,gv];refine bR.ret rfl ?_;simp only[go_sem])
 |(refine an.of ?_;simp only[go_sem])
 |refine aa.fin ae ?_)
theorem AB(g:Gt)(x:Lm)(hg:bP g)(hs:ai E 77 [bT g.aT,br x] (fun r t=>r= .aC [bT (df g.aT x).1,i64 (df g.aT x).2]∧t=[])):ai E 28 [aO g,br x] (fun r t=>r= .aC [aO (fA g x).1,i64 (fA g x).2]∧t=[]):=by
 have hgi:=hg.fit
 refine ai.aw (n:=29) (rs:=[.cell 4 58,.tmp 5]) Tryz.func28 rfl Tryz.ntmps28 rfl ?_
 repeat'(first
 |refine aa.aj fun K hK=>?_
 |(refine aa.region ?_;simp only[go_sem])
 |(refine hK _ ?_;clear hK K)
 |refine aa.cond rfl (fun c=>?_) (fun c=>?_)<;>(try simp only[dD] at c)
 |refine aa.skip ?_
 |(refine ah.one (mO g hg) af rfl ?_;simp only[go_sem])
 |(refine ah.one (gk g hgi) af rfl ?_;simp only[go_sem])
 |(refine ah.one (hs) af rfl ?_;simp only[go_sem])
 |(
  refine aa.ret ?_
  refine aB.is ?_;simp only[go_sem,aE,aI,aH,aG,aJ,aF]<;>(first|(rw[vA ae];simp;done)|(rw[zT ae ae];simp;done)|(rw[AT ae ae];simp;done))))
theorem zY(g:Gt)(n:Int)(o:Od)(hg:bP g)(hn:ba g n=false∨bw (dJ o)=false):ai E 29 [aO g,i64 n,a8 o] (fun r t=>r= .aC [aO g,i64 0,i64 1]∧t=[]):=by
 have hgi:=hg.fit
 refine ai.aw (n:=56) (rs:=[.cell 6 58,.tmp 7,.tmp 8]) Tryz.func29 rfl Tryz.ntmps29 rfl ?_
 repeat'(first
 |refine aa.aj fun K hK=>?_
 |(refine aa.region ?_;simp only[go_sem])
 |(refine hK _ ?_;clear hK K)
 |refine aa.cond rfl (fun c=>?_) (fun c=>?_)<;>first|exact Bool.noConfusion c|(try simp only[dD] at c)
 |refine aa.skip ?_
 |(refine ah.one (mO g hg) af rfl ?_;simp only[go_sem])
 |(refine ah.one (ig g n hgi) af rfl ?_;simp only[go_sem])
 |(refine ah.one (mz (dJ o)) af rfl ?_;simp only[go_sem])
 |(refine aL.split (fun h=>?_) (fun h=>?_)<;>simp only[h,go_sem]<;>(try simp only[dD] at h))
 |(
  refine aa.ret ?_
  refine aB.is ?_;simp only[go_sem,aE,aI,aH,aG,aJ,aF]<;>(first|fail))
 |(exfalso;rcases hn with hn|hn<;>simp_all;done))
end Go.Proofs.YtajeeghgiilhiaaGreat
end
section
namespace Go.Abs
open Go Go.RowKit
variable{w0:World}{im0:dt}{c:Ctx}{st:St}{a:Act}{w:World}
theorem Rel.yy(r:Rel w0 im0 c st a w){id idx j:Nat}{es cs:List AV}{x y:AV}(ho:st.own[id]?=some (some es))(he:es[idx]?=some (.agg cs))(hx:cs[j]?=some x)(hxn:x≠.any)(hy:∀v,VR c x v→VR c y v):
 Rel w0 im0 c { st with own:=st.own.set id (some (es.set idx (.agg (cs.set j y)))) } a w:=by
 have hlt:=bN ho
 have hilt:=bN he
 have conv:∀{i:Nat} {e:List AV},(st.own.set id (some (es.set idx (.agg (cs.set j y)))))[i]?=some (some e)→(i=id∧e=es.set idx (.agg (cs.set j y)))∨(i≠id∧st.own[i]?=some (some e)):=by
  intro i e he
  rw[List.getElem?_set] at he
  by_cases hi':id=i
  ·subst hi';rw[if_pos rfl,if_pos hlt] at he
   simp only[Option.some.injEq] at he;exact .inl ⟨rfl,he.symm⟩
  ·rw[if_neg hi'] at he;exact .inr ⟨Ne.symm hi',he⟩
 have old:∀{i:Nat} {e:List AV},(st.own.set id (some (es.set idx (.agg (cs.set j y)))))[i]?=some (some e)→∃e',st.own[i]?=some (some e'):=fun{i e} he=>by
  rcases conv he with⟨rfl,_⟩|⟨_,h⟩
  ·exact⟨_,ho⟩
  ·exact⟨_,h⟩
 refine⟨r.defers,r.size,r.tmps,r.below,r.di,r.dq,r.cu,by simp[r.ca],fun i g k es' h1 h2=>?_,r.cA,r.tail,r.tok,
  ⟨fun i j g1 k1 g2 k2 e1 e2 a1 a2 a3 a4 hij=>by
    obtain⟨_,a3⟩:=old a3
    obtain⟨_,a4⟩:=old a4
    exact r.apart.oo i j g1 k1 g2 k2 _ _ a1 a2 a3 a4 hij,fun i t g1 k1 e1 T b a1 a2 a3 a4=>by
    obtain⟨_,a2⟩:=old a2
    exact r.apart.ot i t g1 k1 _ T b a1 a2 a3 a4,r.apart.tt⟩,r.dB,r.up,r.hole⟩
 rcases conv h2 with⟨rfl,rfl⟩|⟨_,h2⟩
 ·obtain⟨hnew,him,ds,ty,lo,hi,hblk,hfr,hsz,hlv,hcell⟩:=r.own i g k _ h1 ho
  refine⟨hnew,him,ds,ty,lo,hi,hblk,hfr,by rw[List.length_set];exact hsz,fun i' e he'=>?_,fun i' e j' z he' hz=>?_⟩
  ·rw[List.getElem?_set] at he'
   split at he'
   ·rename_i hi'
    (try rw[if_pos hilt] at he')
    simp only[Option.some.injEq] at he';subst he'
    have:=hlv idx _ he
    simpa[AV.leaves] using this
   ·exact hlv i' e he'
  ·rw[List.getElem?_set] at he'
   split at he'
   ·rename_i hi'
    subst hi'
    (try rw[if_pos hilt] at he')
    simp only[Option.some.injEq] at he';subst he'
    change(cs.set j y)[j']?=some z at hz
    rw[List.getElem?_set] at hz
    split at hz
    ·rename_i hj
     subst hj
     have hjl:=bN hx
     (try rw[if_pos hjl] at hz)
     simp only[Option.some.injEq] at hz;subst hz
     obtain⟨v,e1,e2,e3⟩:=hcell idx _ j x he hx
     exact⟨v,e1,hy v e2,.inr (e3.resolve_left hxn)⟩
    ·exact hcell idx _ j' z he hz
   ·exact hcell i' e j' z he' hz
 ·exact r.own i g k es' h1 h2
theorem aa.lu{E:Env}{c:Code}{Q:Exit→St→Prop}{s:St}(id idx j:Nat){t k:Nat}{es cs xs:List AV}(ho:s.own[id]?=some (some es))(he:es[idx]?=some (.agg cs))(hx:cs[j]?=some (.sl (some t) k xs))(hw:aa E c Q { s with own:=s.own.set id (some (es.set idx (.agg (cs.set j (.sl none k xs))))) }):aa E c Q s:=
 fun w0 im0 _ a w h0 hG r=>hw w0 im0 _ a w h0 hG (r.yy ho he hx aD (fun v hv=> .base hv.fT))
end Go.Abs
end
section
namespace Go.Proofs.YtajeeghgiilhiaaGreat
open Go Go.Abs Go.RowKit Go.Bk
abbrev iJ(v:Vn):AV:= .agg [aV v.book.ak,cg v.book.al,.sl none 1 (v.book.ids.map str),i64 v.book.clock,i64 v.book.bad,.sl (some 0) 8 (v.ax.map a8),i64 v.last,bl v.bB]
theorem yi{no nt m k:Nat}{l:List Vn}{v:Vn}(h:0<nt):∀es,some ((l.map aS++spare 8 m).set k (iJ v))=some es→∀e∈es,∀z∈e.leaves,z.bO no nt=true:=by
 intro es he e hm z hz
 simp only[Option.some.injEq] at he
 subst he
 rcases List.mem_or_eq_of_mem_set hm with hm|rfl
 ·exact dN (no:=no) (nt:=nt) (m:=m) (l:=l) _ rfl e hm z hz
 ·simp only[AV.leaves,List.mem_cons,List.not_mem_nil,or_false] at hz
  rcases hz with rfl|rfl|rfl|rfl|rfl|rfl|rfl|rfl<;>first|rfl|exact decide_eq_true h
theorem lP{p:Prop}[Decidable p](h:false=decide p):¬p:=of_decide_eq_false h.symm
theorem lQ{p:Prop}[Decidable p](h:true=decide p):p:=of_decide_eq_true h.symm
theorem sh{p:Prop}[Decidable p](h:¬p):false=decide p:=(decide_eq_false h).symm
theorem qo{p:Prop}[Decidable p](h:p):true=decide p:=(decide_eq_true h).symm
theorem gQ{l:List Vn}{i k m:Nat}{v:Vn}{t:AV}(hki:k<i)(h:l[i]?=some v):((l.map aS++spare 8 m).set k t).set i (.agg [aV v.book.ak,cg v.book.al,.sl none 1 (v.book.ids.map str),i64 v.book.clock,i64 v.book.bad,aV v.ax,i64 v.last,bl v.bB])=(l.map aS++spare 8 m).set k t:=by
 rw[List.set_comm _ _ ab,cZ h]
theorem qQ{v:Vn}{id:Bs}(h:hasB v.book.ak id=false∧hasB v.ax id=false):eM v id=false:=by simp[eM,h]
theorem oA{l:List Vn}{k m:Nat}{w:Vn}(h:l[k]?=some w):(((l.map aS++spare 8 m).set k (iJ w)).set k (.agg [aV w.book.ak,cg w.book.al,.sl none 1 (w.book.ids.map str),i64 w.book.clock,i64 w.book.bad,.sl none 8 (w.ax.map a8),i64 w.last,bl w.bB]))=l.map aS++spare 8 m:=by
 rw[List.set_set];exact cZ h
theorem CA{l:List Vn}{k m:Nat}{w:Vn}{o:Od}(h:k<l.length):((((l.map aS++spare 8 m).set k (iJ w)).set k (.agg [aV w.book.ak,cg w.book.al,.sl none 1 (w.book.ids.map str),i64 w.book.clock,i64 w.book.bad,.sl (some 0) 8 (w.ax.map a8++[a8 o]),i64 w.last,bl w.bB])).set k (.agg [aV w.book.ak,cg w.book.al,.sl none 1 (w.book.ids.map str),i64 w.book.clock,i64 w.book.bad,.sl none 8 (w.ax.map a8++[a8 o]),i64 w.last,bl w.bB]))=(l.set k (fg w o)).map aS++spare 8 m:=by
 rw[List.set_set,List.set_set,←mf (v:=fg w o) h]
 congr 1
 simp[fg]
theorem LI{l:List Vn}{k m:Nat}{w:Vn}{o:Od}(h:k<l.length):((((l.map aS++spare 8 m).set k (iJ w)).set k (.agg [aV w.book.ak,cg w.book.al,.sl none 1 (w.book.ids.map str),i64 w.book.clock,i64 w.book.bad,.sl (some 0) 8 (w.ax.map a8++[AV.agg [str o.id,str o.acc,str o.sym,bl o.az,i64 o.aq,i64 o.aA,.v (.int .i64 0),.v (.bool true)]]),i64 w.last,bl w.bB])).set k (.agg [aV w.book.ak,cg w.book.al,.sl none 1 (w.book.ids.map str),i64 w.book.clock,i64 w.book.bad,.sl none 8 (w.ax.map a8++[AV.agg [str o.id,str o.acc,str o.sym,bl o.az,i64 o.aq,i64 o.aA,.v (.int .i64 0),.v (.bool true)]]),i64 w.last,bl w.bB]))=(l.set k (fg w (dJ o))).map aS++spare 8 m:=CA (o:=dJ o) h
theorem FB(g:Gt)(k:Nat)(w:Vn)(o:Od)(hg:bP g)(hx0:g.ao[k]?=some w)(ha:ba g (k:Int)=true)(hmay:bw (dJ o)=true):ai E 29 [aO g,i64 (k:Int),a8 o] (fun r t=>r= .aC [aO (eL g (k:Int) o).1,i64 (eL g (k:Int) o).2.1,i64 (eL g (k:Int) o).2.2]∧t=[]):=by
 have hgi:=hg.fit
 have hg1:=hg.1
 have hg2:=hg.2.1
 have hkn:=bM hx0
 have hsm:=o7 ha hx0
 refine ai.aw (n:=56) (rs:=[.cell 6 58,.tmp 7,.tmp 8]) Tryz.func29 rfl Tryz.ntmps29 rfl ?_
 repeat'(first
 |(
  refine aa.ky hc1 ?_
  first
  |(refine aa.iN [0,1,2,3,4,6] ay rfl rfl ?_;simp only[go_sem,lM,List.length_map];refine aa.weaken ?_ (hc1 m);(try simp only[go_sem]);(repeat'(first|refine And.intro ?_ ?_|trivial|exact .inr (aR rfl)|exact .inr dN));done)
  |(have he:g.ao=[]:=Classical.byContradiction fun hne=>by
     have:=hbb (by simpa using hne)
     simp_all
    refine aa.lf 3 0 8 _ rfl rfl ?_
    simp only[go_sem]
    refine aa.weaken ?_ (hc1 0);(try simp only[go_sem,he,List.length_nil,List.map_nil,lz]);(repeat'(first|refine And.intro ?_ ?_|trivial|exact .inr (aR rfl)));done))
 |refine aa.aj fun K hK=>?_
 |(
  refine aa.here 1 5 5 rfl ?_
  first
  |(have h0:=hc1;clear h0;refine aa.bA ?_;refine an.at 5 2 rfl ?_;simp only[go_sem])
  |((fail_if_success(have h0:=hc1));refine aa.cutAt (ι:=Nat) [5,6,7,8] (fun(m:Nat)=>[]) (fun(m:Nat)=>[some [.agg [eB g.ao,bT g.aT,bl g.kill,i64 g.now,i64 g.pat]],some [a8 o],some [.agg [.aQ,.aQ,bl false,i64 0,i64 0]],some [.agg [.mu 5 8 0 g.ao.length (g.ao.length+m),bT g.aT,bl g.kill,i64 g.now,i64 g.pat]],some [.agg [.aQ,.aQ,bl false,i64 0,i64 0]],some (g.ao.map aS++spare 8 m)]) (fun(m:Nat)=>[]) hK (fun m=>?_) (fun hc1=>?_)))
 |(refine Cut.mk ?_;simp only[go_sem])
 |(
  refine aa.here 5 26 5 rfl ?_
  have hxk:((g.ao.map aS++spare 8 m).set k (iJ w))[k]?=some (iJ w):=List.getElem?_set_self (by simp;omega)
  refine aa.region ?_;simp only[go_sem,ha,hmay])
 |(
  refine aa.here 6 30 6 rfl ?_
  refine aa.bf [0,1,2,3,4,5] [] af af rfl ?_;simp only[go_sem,ha,hmay,hxk])
 |(
  refine aa.here 7 36 4 rfl ?_
  refine aa.lu 5 k 5 rfl hxk rfl ?_
  simp only[go_sem,ha,hmay]
  rw[oA hx0]
  refine aa.eX 6 0 (jd:=5) (k:=8) (n:=g.ao.length) (cap:=g.ao.length+m) _ (g.ao.map aS++spare 8 m) ay rfl rfl rfl (by simp[cJ]) (by rw[fh];exact fw _) ?_
  rw[fh]
  simp only[go_sem,ha,hmay]
  refine aa.region ?_;simp only[go_sem,ha,hmay])
 |(
  refine aa.here 10 43 5 rfl ?_
  refine aa.lu 5 k 5 rfl hxk rfl ?_
  simp only[go_sem,ha,hmay]
  rw[oA hx0]
  refine aa.eX 6 0 (jd:=5) (k:=8) (n:=g.ao.length) (cap:=g.ao.length+m) _ (g.ao.map aS++spare 8 m) ay rfl rfl rfl (by simp[cJ]) (by rw[fh];exact fw _) ?_
  rw[fh]
  simp only[go_sem,ha,hmay]
  refine aa.region ?_;simp only[go_sem,ha,hmay])
 |(
  refine aa.here 11 45 11 rfl ?_
  refine aa.gZ (.take 0 (.take 1 (.take 2 (.take 3 (.take 4 (.take 5 (.take 6 (.take 7 (.take 8 (.take 9 (.take 10 .done))))))))))) [[],[],[1],[1,2],[1,2,3],[],[5],[1,2,3,4,5,6],[0,1,2,3,4,5,6,7],[0,1,2,3,4,5,6,7,8],[0,1,2,3,4,5,6,7,8,9]] [] af af ?_;simp only[go_sem,ha,hmay,hxk])
 |(
  refine aa.here 12 55 4 rfl ?_
  refine aa.lu 5 k 5 rfl (List.getElem?_set_self (by simp;omega)) rfl ?_
  simp only[go_sem,ha,hmay]
  rw[LI hkn]
  refine aa.eX 6 0 (jd:=5) (k:=8) (n:=g.ao.length) (cap:=g.ao.length+m) _ ((g.ao.set k (fg w (dJ o))).map aS++spare 8 m) ay rfl rfl rfl (by simp[cJ]) (by rw[fL];exact fw _) ?_
  rw[fL]
  simp only[go_sem,ha,hmay]
  refine aa.region ?_;simp only[go_sem,ha,hmay])
 |(
  refine aa.here 5 15 5 rfl ?_
  obtain⟨v,hx⟩:∃v,g.ao[i]?=some v:=⟨_,List.getElem?_eq_getElem ab⟩
  have hv:=hg.2.2 v (List.mem_of_getElem? hx)
  have hx2:(g.ao.map aS++spare 8 m)[i]?=some (aS v):=by rw[List.getElem?_append_left (by simpa using bM hx),List.getElem?_map,hx];rfl
  have hvw:i=k→v=w:=fun e=>by subst e;rw[hx] at hx0;exact Option.some.inj hx0
  (first|have hki:=lP hbk|(have hki:=lQ hbk;have hx3:((g.ao.map aS++spare 8 m).set k (iJ w))[i]?=some (aS v):=(List.getElem?_set_ne ab).trans hx2))
  refine aa.region ?_;simp only[go_sem])
 |(
  refine aa.here 7 29 11 rfl ?_
  (first|rw[cZ hx]|rw[gQ ab hx])
  refine aa.region ?_;simp only[go_sem])
 |(
  refine aa.here 8 39 11 rfl ?_
  (first|rw[cZ hx]|rw[gQ ab hx])
  refine aa.region ?_;simp only[go_sem])
 |(
  refine aa.here 10 57 2 rfl ?_
  (first|rw[cZ hx]|rw[gQ ab hx]|skip)
  (try(obtain rfl:=hvw hik1;subst hik1))
  refine aa.region ?_;simp only[go_sem])
 |(
  refine aa.here 9 49 9 rfl ?_
  (first|rw[cZ hx]|rw[gQ ab hx])
  rcases Nat.decEq i k with hik0|hik1<;>(first|(exfalso;omega)|(refine aa.region ?_;simp only[go_sem])))
 |(
  refine aa.here 11 58 5 rfl ?_
  (first|(exfalso;have hki:=lP hbk;omega)|(have hki:=lQ hbk;refine aa.region ?_;simp only[go_sem])))
 |(
  refine aa.here 3 5 4 rfl ?_
  refine aa.bA ?_
  refine an.iY eN ?_
  simp only[go_sem]
  refine an.at 3 1 rfl ?_
  simp only[go_sem]
  refine an.kj jE eN rfl rfl rfl (by simp;omega) (by simp;omega) ?_
  intro m
  simp only[go_sem]
  refine an.of ?_
  simp only[go_sem])
 |(refine aa.here 1 12 4 rfl ?_;refine aa.bA ?_;refine an.at 4 1 rfl ?_;simp only[go_sem,ha,hmay])
 |(refine aa.region ?_;simp only[go_sem,ha,hmay])
 |(refine hK _ ?_;clear hK K)
 |refine aa.block ?_
 |refine aa.cond rfl (fun c=>?_) (fun c=>?_)<;>first|exact Bool.noConfusion c|(try simp only[dD] at c)
 |refine aa.skip ?_
 |(refine aa.exit ?_;simp only[go_sem,ha,hmay])
 |(refine ah.one (ig g (k:Int) hgi) af rfl ?_;simp only[go_sem,ha,hmay])
 |(refine ah.one (mz (dJ o)) af rfl ?_;simp only[go_sem,ha,hmay])
 |(refine ah.one (B9 w o.id (hg.2.2 w (List.mem_of_getElem? hx0)).fit) af rfl ?_;simp only[go_sem,ha,hmay])
 |(refine ah.one (wZ g k w (dJ o) hgi hx0 hsm) af rfl ?_;simp only[go_sem,ha,hmay])
 |(have h0:=hik1;clear h0;refine ah.of (mv v.ax hv.2.2.2) af rfl ?_;rintro r t ⟨rfl,rfl⟩;simp only[go_sem])
 |(refine ah.one (fq v.book.ak hv.1) af rfl ?_;simp only[go_sem])
 |(refine ah.one (fq v.ax hv.2.2.2) af rfl ?_;simp only[go_sem])
 |(refine ah.one (kh v.book.al hv.2.1) af rfl ?_;simp only[go_sem])
 |(refine ah.one (kg v.book.ids hv.2.2.1) af rfl ?_;simp only[go_sem])
 |(refine ah.one (lD g.aT hg2) af rfl ?_;simp only[go_sem])
 |(refine an.call (rs:=[.cell 2 58]) Tryz.func76 rfl Tryz.ntmps76 rfl af rfl rfl ?_;simp only[go_sem])
 |(refine an.call (rs:=[.tmp 2]) Tryz.func144 rfl Tryz.ntmps144 rfl af rfl rfl ?_;simp only[go_sem])
 |(refine aM.bG ae ?_;(try simp only[go_sem,ha,hmay]))
 |(refine aM.gj ae ?_;(try simp only[go_sem,ha,hmay]))
 |((with_reducible refine And.intro ?_ ?_);(focus(first|omega|(simp;done)));(try simp only[hb,go_sem,ha,hmay]))
 |(
  refine aa.here 3 13 1 rfl ?_
  refine aa.ck (ι:=Bool×Nat) [3,4,13,14,15,16,17,18,19,20,21,22,23,24,25,26,27,28,29,30,31,32,33,34,35,36,37,38,39,40,41,42,43,44,45,46,47,48,49,50,51,52,53,54,55,56,57] (fun⟨bk,i⟩=>[(12,i64 i)]) (fun⟨bk,i⟩=>[some [.agg [eB g.ao,bT g.aT,bl g.kill,i64 g.now,i64 g.pat]],some [a8 o],some [.agg [.aQ,.aQ,bl false,i64 0,i64 0]],some [.agg [.mu 5 8 0 g.ao.length (g.ao.length+m),bT g.aT,bl g.kill,i64 g.now,i64 g.pat]],some [.agg [.aQ,.aQ,bl false,i64 0,i64 0]],some (bif bk then((g.ao.map aS++spare 8 m).set k (iJ w)) else(g.ao.map aS++spare 8 m))]) (fun⟨bk,i⟩=>(bif bk then[w.ax.length] else[])) (fun⟨bk,i⟩=>i≤g.ao.length∧bk=decide (k<i)) (fun⟨bk,i⟩=>g.ao.length-i) ((false,0)) ?_ ?_ ?_
  ·(try simp only[go_sem]);(repeat'(first|refine And.intro ?_ ?_|trivial|exact .inr (aR rfl)|exact .inr dN));done
  ·exact⟨by omega,by simp⟩
  rintro⟨bk,i⟩ ⟨h1,hbk⟩
  simp only[go_sem]
  cases bk<;>simp only[cond_true,cond_false])
 |(
  refine⟨(false,i+1),?_,?_,?_⟩
  ·(try simp only[go_sem]);(try rw[av ab ab]);(repeat'(first|refine And.intro ?_ ?_|exact .inr rfl|exact .inr (aR rfl)|exact .inr dN|exact .inr ⟨by simp,by simp⟩));done
  ·(exact⟨by omega,sh ab⟩)
  ·(try simp only[]);omega)
 |(
  refine⟨(true,i+1),?_,?_,?_⟩
  ·(try simp only[go_sem]);(try rw[av ab ab]);(repeat'(first|refine And.intro ?_ ?_|exact .inr rfl|trivial|exact .inr (aR rfl)|exact .inr (yi ay)));done
  ·(exact⟨by omega,qo ab⟩)
  ·(try simp only[]);omega)
 |(
  refine aa.ret ?_
  refine aB.is ?_;simp only[go_sem,aE,aI,aH,aG,aJ,aF]<;>(first
  |(rw[XA ha hmay hx0 (by simp[eM];assumption)];simp;done)
  |(rw[FP ha hmay hx0 (qQ ae) ae];simp;done)
  |(rw[Ro ha hmay hx0 (qQ ae) ae];simp[cq];done)))
 |(refine aa.ret ?_;refine bR.ret rfl ?_;simp only[go_sem,ha,hmay])
 |(refine aa.ret ?_;simp only[gr,gv];refine bR.ret rfl ?_;simp only[go_sem,ha,hmay])
 |(refine an.of ?_;simp only[go_sem,ha,hmay])
 |((fail_if_success(have:=hbb));(with_reducible intro bb hbb))
 |refine aa.fin ae ?_)
theorem uH(g:Gt)(n:Int)(o:Od)(hg:bP g):ai E 29 [aO g,i64 n,a8 o] (fun r t=>r= .aC [aO (eL g n o).1,i64 (eL g n o).2.1,i64 (eL g n o).2.2]∧t=[]):=by
 cases ha:ba g n with
 |false=>rw[re ha];exact zY g n o hg (.inl ha)
 |true=>
  cases hm:bw (dJ o) with
  |false=>rw[vD hm];exact zY g n o hg (.inr hm)
  |true=>
   obtain⟨k,v,rfl,hx⟩:=fk ha
   exact FB g k v o hg hx ha hm
end Go.Proofs.YtajeeghgiilhiaaGreat
end
