/- (G23, G24, Shf, Ly, T6) -/
import Derived.Test.YtajeeghgiilhiaaGreatKxR
import Derived.Shelf.SlGeneric
import Derived.Shelf.SlSortCmp.WholeK
import Derived.Ground.SlsfProg
import Derived.Test.YtajeeghgiilhiaaGreatProg
import Derived.Test.YtajeeghgiilhiaaGreatKxI
import Derived.Test.YtajeeghgiilhiaaGreatKxM
import Derived.Shelf.GgSortFunc.InsertionK
import Derived.Test.YtajeeghgiilhiaaGreatKxJ
import Derived.Test.YtajeeghgiilhiaaGreatKxL
import Derived.Test.YtajeeghgiilhiaaGreatKxA
set_option linter.unusedVariables false
set_option linter.unusedSimpArgs false
set_option maxHeartbeats 16000000
set_option maxRecDepth 8000
section
namespace Go.Proofs.YtajeeghgiilhiaaGreat
open Go Go.Abs Go.RowKit Go.Bk
abbrev cU(l:List Lm):Prop:=∀x∈l,x.acc.length≤9223372036854775807∧x.sym.length≤9223372036854775807
theorem oZ(l:List Od)(id:Bs):decide (0≤bW l id)=hasB l id:=by
 unfold bW b7 hasB
 cases h:l.findIdx? (fun o=>decide (o.id=id)) with
 |none=>
  have h2:=List.findIdx?_eq_none_iff.1 h
  symm
  simp only[decide_eq_false_iff_not.2 (by omega:¬(0:Int)≤-1)]
  rw[List.any_eq_false]
  exact fun x hx=>by simpa using h2 x hx
 |some n=>
  obtain⟨h1,h2⟩:=List.findIdx?_eq_some_iff_findIdx_eq.1 h
  symm
  simp only[decide_eq_true (Int.natCast_nonneg n)]
  rw[List.any_eq_true]
  refine⟨l[n],List.getElem_mem h1,?_⟩
  subst h2
  exact List.findIdx_getElem (w:=h1)
theorem sE{l:List Od}{id:Bs}(h:bW l id<0):hasB l id=false:=by rw[←oZ];exact decide_eq_false ab
theorem R9{l:List Od}{id:Bs}(h:0≤bW l id):hasB l id=true:=by rw[←oZ];exact decide_eq_true h
theorem O8{g:Gt}{n:Int}(h:bt g=false):ba g n=false:=by unfold ba;rw[h];simp
theorem M8{g:Gt}{n:Int}(h:bt g=true)(h0:0≤n):decide (n<(g.ao.length:Int))=ba g n:=by unfold ba;simp[h,h0]
theorem QV{g:Gt}{now:Int}(h:bt g=false):eP g now=(g,1):=by unfold eP;rw[if_neg (fun e=>by rw[h] at e;simp at e)]
theorem O9{g:Gt}{now:Int}(h:now<g.now):eP g now=(g,1):=by unfold eP;rw[if_neg (fun e=>by omega)]
theorem WT{g:Gt}{now:Int}(h:bt g=true)(h2:g.now≤now)(h3:cK now=true):eP g now=(⟨g.ao,g.aT,g.kill,now,g.pat⟩,0):=by
 simp only[cK,Bool.and_eq_true,decide_eq_true_eq] at h3
 unfold eP;rw[if_pos ⟨h,h2,h3.2⟩]
theorem RE{g:Gt}{now:Int}(h:bt g=true)(h2:g.now≤now)(h3:cK now=false):eP g now=(g,1):=by
 have hr:=h
 simp only[bt,cK,Bool.and_eq_true,decide_eq_true_eq] at hr
 unfold eP;rw[if_neg]
 rintro⟨_,_,e⟩
 simp only[cK,Bool.and_eq_false_iff,decide_eq_false_iff_not] at h3
 omega
theorem tC(n:Int):ai E 122 [i64 n] (fun r t=>r=bl (cK n)∧t=[]):=by
 refine ai.aw (n:=9) (rs:=[.tmp 2]) Tryz.func122 rfl Tryz.ntmps122 rfl ?_
 repeat'(first
 |refine aa.aj fun K hK=>?_
 |(refine aa.region ?_;simp only[go_sem])
 |(refine hK _ ?_;clear hK K)
 |(refine aL.split (fun h=>?_) (fun h=>?_)<;>simp only[h,go_sem]<;>(try simp only[dD] at h))
 |(
  refine aa.ret ?_
  refine aB.is ?_;simp only[go_sem,aE,aI,aH,aG,aJ,aF]<;>(simp_all[cK]<;>omega)))
theorem gO(g:Gt)(hg:dS g)(hlm:cU g.aT):ai E 49 [aO g] (fun r t=>r=bl (bt g)∧t=[]):=by
 have hg1:=hg.1
 have hg2:=hg.2.1
 refine ai.aw (n:=106) (rs:=[.tmp 2]) Tryz.func49 rfl Tryz.ntmps49 rfl ?_
 repeat'(first
 |refine aa.aj fun K hK=>?_
 |(
  refine aa.here 6 41 7 rfl ?_
  obtain⟨v,hx⟩:∃v,g.ao[i]?=some v:=⟨_,List.getElem?_eq_getElem ab⟩
  have hv:=hg.2.2 v (List.mem_of_getElem? hx)
  have ho:=hv.1
  have hs:=hv.2.2.2
  refine aa.region ?_;simp only[go_sem])
 |(
  refine aa.here 7 46 33 rfl ?_
  have hro:aW v.book=true→v.book.ak.length≤64:=fun h=>BX h
  have hrs:bd v.ax=true→v.ax.length≤64:=fun h=>Al h
  refine aa.region ?_;simp only[go_sem])
 |(
  refine aa.here 12 86 20 rfl ?_
  obtain⟨o,hy⟩:∃o,v.ax[j]?=some o:=⟨_,List.getElem?_eq_getElem ab⟩
  refine aa.bf [0,1,2,3,4,5,6,7,8,9,10,11,12,13,14,15,16,17,18,19] [] af af rfl ?_;simp only[go_sem])
 |(refine aa.region ?_;simp only[go_sem])
 |(refine hK _ ?_;clear hK K)
 |refine aa.block ?_
 |refine aa.cond rfl (fun c=>?_) (fun c=>?_)<;>first|exact Bool.noConfusion c|(try simp only[dD] at c)
 |refine aa.skip ?_
 |(refine aa.exit ?_;simp only[go_sem])
 |(refine ah.one (uo g.aT hg2 hlm) af rfl ?_;simp only[go_sem])
 |(refine ah.one (tC g.now) af rfl ?_;simp only[go_sem])
 |(refine ah.one (tC g.pat) af rfl ?_;simp only[go_sem])
 |(refine ah.one (qq v.book hv.1 hv.2.1 hv.2.2.1) af rfl ?_;simp only[go_sem])
 |(refine ah.one (oN v.ax hs) af rfl ?_;simp only[go_sem])
 |(refine ah.one (fY v.book.ak o.id ho) af rfl ?_;simp only[go_sem])
 |(refine aL.cc (fun h=>?_) (fun h=>?_)<;>simp only[h,go_sem]<;>(try simp only[dD] at h))
 |(refine aL.split (fun h=>?_) (fun h=>?_)<;>simp only[h,go_sem]<;>(try simp only[dD] at h))
 |(refine aM.bG ae ?_;(try simp only[go_sem]))
 |((with_reducible refine And.intro ?_ ?_);(focus((simp;done)));(try simp only[hb,go_sem]))
 |(
  refine aa.here 4 34 5 rfl ?_
  refine aa.ck (ι:=Nat) [2,4,5,34,35,36,37,38,39,40,41,42,43,44,45,46,47,48,49,50,51,52,53,54,55,56,57,58,59,60,61,62,63,64,65,66,67,68,69,70,71,72,73,74,75,76,77,78,79,80,81,82,83,84,85,86,87,88,89,90,91,92,93,94,95,96,97,98,99,100,101,102,103,104,105] (fun(i:Nat)=>[(3,i64 i)]) (fun(i:Nat)=>[some [.agg [eB g.ao,bT g.aT,bl g.kill,i64 g.now,i64 g.pat]]]) (fun(i:Nat)=>[]) (fun(i:Nat)=>i≤g.ao.length∧∀k v,k<i→g.ao[k]?=some v→dv v g.now=true) (fun(i:Nat)=>g.ao.length-i) (0) ?_ ?_ ?_
  ·(try simp only[go_sem]);(repeat'(exact .inr (aR rfl)));done
  ·exact⟨by omega,fun k v hk=>by omega⟩
  rintro i ⟨h1,h3⟩
  simp only[go_sem])
 |(
  refine aa.here 10 79 5 rfl ?_
  refine aa.ck (ι:=Nat) [2,79,80,81,82,83,84,85,86,87,88,89,90,91,92,93,94,95,96,97,98,99,100,101,102,103,104,105] (fun(j:Nat)=>[(5,i64 j)]) (fun(j:Nat)=>[some [.agg [eB g.ao,bT g.aT,bl g.kill,i64 g.now,i64 g.pat]],some [.agg [aV v.book.ak,cg v.book.al,.sl none 1 (v.book.ids.map str),i64 v.book.clock,i64 v.book.bad,aV v.ax,i64 v.last,bl v.bB]]]) (fun(j:Nat)=>[]) (fun(j:Nat)=>j≤v.ax.length∧∀k o,k<j→v.ax[k]?=some o→o.bq=true∧hasB v.book.ak o.id=false) (fun(j:Nat)=>v.ax.length-j) (0) ?_ ?_ ?_
  ·(try simp only[go_sem]);(repeat'(first|refine And.intro ?_ ?_|exact .inr (aR rfl)));done
  ·exact⟨by omega,fun k o hk=>by omega⟩
  rintro j ⟨h4,h5⟩
  simp only[go_sem])
 |(
  refine⟨i+1,?_,?_,?_⟩
  ·(try simp only[go_sem]);(try rw[av ab ab]);(repeat'(first|refine And.intro ?_ ?_|exact .inr rfl|exact .inr (aR rfl)));done
  ·exact⟨by omega,pc h3 hx (ub ae ae ab ab ab (i:=j) ab h5)⟩
  ·(try simp only[]);omega)
 |(
  refine⟨j+1,?_,?_,?_⟩
  ·(try simp only[go_sem]);(try rw[av ab ab]);(repeat'(first|refine And.intro ?_ ?_|exact .inr rfl|exact .inr (aR rfl)));done
  ·exact⟨by omega,pc h5 hy ⟨by assumption,sE ab⟩⟩
  ·(try simp only[]);omega)
 |(
  refine aa.ret ?_
  refine aB.is ?_;simp only[go_sem,aE,aI,aH,aG,aJ,aF]<;>(first|(rw[o5 ab];done)|(rw[Cg ae];done)|(rw[BO ae];done)|(rw[xh ae];done)|(rw[oS hx (AU ae)];done)|(rw[oS hx (xe ae)];done)|(have q1:=hro ae;have q2:=hrs ae;rw[oS hx (Bq (by first|omega|(rw[av ab ab] at *;omega)))];done)|(rw[oS hx (uv hy (fun e=>absurd e.1 (by rw[show o.bq=false by assumption];simp)))];done)|(rw[oS hx (uv hy (fun e=>absurd e.2 (by rw[R9 ab];simp)))];done)|(rw[oG ab ab ae ae ae (i:=i) ab h3];done)))
 |(have q1:=hro ae;have q2:=hrs ae;have hws:IntKind.i64.wrap ((v.ax.length:Int)+v.book.ak.length)=(v.ax.length:Int)+v.book.ak.length:=av ab ab;(fail_if_success(have:=q9));have q9:=hws;rw[hws])
 |refine aa.fin ae ?_)
theorem fE(g:Gt)(n:Int)(hg:dS g)(hlm:cU g.aT):ai E 51 [aO g,i64 n] (fun r t=>r=bl (ba g n)∧t=[]):=by
 have hg1:=hg.1
 have hg2:=hg.2.1
 refine ai.aw (n:=18) (rs:=[.tmp 4]) Tryz.func51 rfl Tryz.ntmps51 rfl ?_
 repeat'(first
 |refine aa.aj fun K hK=>?_
 |(refine aa.region ?_;simp only[go_sem])
 |(refine hK _ ?_;clear hK K)
 |(refine ah.one (gO g hg hlm) af rfl ?_;simp only[go_sem])
 |(refine aL.split (fun h=>?_) (fun h=>?_)<;>simp only[h,go_sem]<;>(try simp only[dD] at h))
 |((with_reducible refine And.intro ?_ ?_);(focus((simp;done)));(try simp only[hb,go_sem]))
 |(
  refine aa.ret ?_
  refine aB.is ?_;simp only[go_sem,aE,aI,aH,aG,aJ,aF]<;>(first|exact M8 ae ae |(rw[zD ab];done)|(rw[O8 ae];done))))
theorem EF(g:Gt)(now:Int)(hg:dS g)(hlm:cU g.aT):ai E 115 [aO g,i64 now] (fun r t=>r= .aC [aO (eP g now).1,i64 (eP g now).2]∧t=[]):=by
 have hg1:=hg.1
 have hg2:=hg.2.1
 refine ai.aw (n:=24) (rs:=[.cell 4 58,.tmp 5]) Tryz.func115 rfl Tryz.ntmps115 rfl ?_
 repeat'(first
 |refine aa.aj fun K hK=>?_
 |(refine aa.region ?_;simp only[go_sem])
 |(refine hK _ ?_;clear hK K)
 |refine aa.cond rfl (fun c=>?_) (fun c=>?_)<;>first|exact Bool.noConfusion c|(try simp only[dD] at c)
 |refine aa.skip ?_
 |(refine ah.one (gO g hg hlm) af rfl ?_;simp only[go_sem])
 |(refine ah.one (tC now) af rfl ?_;simp only[go_sem])
 |(refine aL.cc (fun h=>?_) (fun h=>?_)<;>simp only[h,go_sem]<;>(try simp only[dD] at h))
 |(refine aL.split (fun h=>?_) (fun h=>?_)<;>simp only[h,go_sem]<;>(try simp only[dD] at h))
 |(
  refine aa.ret ?_
  refine aB.is ?_;simp only[go_sem,aE,aI,aH,aG,aJ,aF]<;>(first|(rw[QV ae];exact⟨⟨rfl,rfl,rfl,rfl,rfl⟩,rfl⟩)|(rw[O9 ab];exact⟨⟨rfl,rfl,rfl,rfl,rfl⟩,rfl⟩)|(rw[WT ae ab ae];simp;done)|(rw[RE ae ab ae];exact⟨⟨rfl,rfl,rfl,rfl,rfl⟩,rfl⟩))))
theorem zf(g:Gt)(k:Nat)(v:Vn)(hx:g.ao[k]?=some v)(hsm:v.book.ak.length+v.ax.length≤64):ai E 52 [aO g,i64 (k:Int)] (fun r t=>r=i64 (eV v g.now g.pat)∧t=[]):=by
 have hn:=bM hx
 have hws:IntKind.i64.wrap ((v.book.ak.length:Int)+v.ax.length)=(v.book.ak.length:Int)+v.ax.length:=av ab ab
 have e64:decide ((64:Int)≤(v.book.ak.length:Int)+v.ax.length)=decide (64≤v.book.ak.length+v.ax.length):=decide_eq_decide.2 ab
 refine ai.aw (n:=42) (rs:=[.tmp 4]) Tryz.func52 rfl Tryz.ntmps52 rfl ?_
 repeat'(first
 |refine aa.aj fun K hK=>?_
 |(refine aa.region ?_;simp only[go_sem,hws,e64])
 |(refine hK _ ?_;clear hK K)
 |(refine ah.one (Sj v.last v.bB _ v.book.bad g.now g.pat) af rfl ?_;simp only[go_sem,hws,e64])
 |(refine aL.cc (fun h=>?_) (fun h=>?_)<;>simp only[h,go_sem,hws,e64]<;>(try simp only[dD] at h))
 |(refine aM.bG ae ?_;(try simp only[go_sem,hws,e64]))
 |((with_reducible refine And.intro ?_ ?_);(focus((simp;done)));(try simp only[hb,go_sem,hws,e64]))
 |(
  refine aa.ret ?_
  refine aB.is ?_;simp only[go_sem,aE,aI,aH,aG,aJ,aF]<;>(first|(unfold eV;rw[decide_eq_true ab,Bool.true_or];done)|(unfold eV;rw[decide_eq_false (p:=256≤v.book.ids.length) ab,Bool.false_or];done))))
theorem lk(g:Gt)(k:Nat)(v:Vn)(hk:k<g.ao.length)(hl:g.ao.length≤1000000):ai E 177 [aO g,i64 (k:Int),aS v] (fun r t=>r=aO (cq g k v)∧t=[]):=by
 refine ai.aw (n:=19) (rs:=[.cell 6 58]) Tryz.func177 rfl Tryz.ntmps177 rfl ?_
 repeat'(first
 |refine aa.aj fun K hK=>?_
 |(
  refine aa.here 2 12 5 rfl ?_
  obtain⟨u,hx⟩:∃u,g.ao[k]?=some u:=⟨_,List.getElem?_eq_getElem hk⟩
  have hx2:(g.ao.map aS++spare 8 m)[k]?=some (aS u):=by rw[List.getElem?_append_left (by simpa using hk),List.getElem?_map,hx];rfl
  refine aa.region ?_;simp only[go_sem])
 |(
  refine aa.here 4 18 2 rfl ?_
  rw[mf hk]
  refine aa.eX 0 0 (jd:=4) (k:=8) (n:=g.ao.length) (cap:=g.ao.length+m) _ ((g.ao.set k v).map aS++spare 8 m) ay rfl rfl rfl (by simp[cJ]) (by rw[fL];exact fw _) ?_
  rw[fL]
  simp only[go_sem]
  refine aa.region ?_;simp only[go_sem])
 |(
  refine aa.here 1 8 5 rfl ?_
  refine aa.bA ?_
  refine an.iY eN ?_
  simp only[go_sem]
  refine an.at 4 2 rfl ?_
  simp only[go_sem]
  refine an.kj jE eN rfl rfl rfl (by simp;omega) (by simp;omega) ?_
  intro m
  simp only[go_sem]
  refine an.of ?_
  simp only[go_sem])
 |(refine aa.region ?_;simp only[go_sem])
 |(refine hK _ ?_;clear hK K)
 |(refine aM.gj ae ?_;(try simp only[go_sem]))
 |((with_reducible refine And.intro ?_ ?_);(focus(omega));(try simp only[hb,go_sem]))
 |(
  refine aa.ret ?_
  refine aB.is ?_;simp only[go_sem,aE,aI,aH,aG,aJ,aF]<;>(try(((simp[cq];done))))))
theorem Jb(g:Gt)(n:Int)(b:Bool)(hg:bP g)(hlm:cU g.aT):ai E 116 [aO g,i64 n,bl b] (fun r t=>r= .aC [aO (iQ g n b).1,i64 (iQ g n b).2]∧t=[]):=by
 have hgi:=hg.fit
 have hg1:=hg.1
 refine ai.aw (n:=25) (rs:=[.cell 6 58,.tmp 7]) Tryz.func116 rfl Tryz.ntmps116 rfl ?_
 repeat'(first
 |refine aa.aj fun K hK=>?_
 |(
  refine aa.here 3 14 7 rfl ?_
  obtain⟨k,v,rfl,hx⟩:=fk ae
  have hv:=hg.2.2 v (List.mem_of_getElem? hx)
  have hn:=bM hx
  refine aa.region ?_;simp only[go_sem])
 |(refine aa.region ?_;simp only[go_sem])
 |(refine hK _ ?_;clear hK K)
 |refine aa.cond rfl (fun c=>?_) (fun c=>?_)<;>(try simp only[dD] at c)
 |refine aa.skip ?_
 |(refine ah.one (fE g n hgi hlm) af rfl ?_;simp only[go_sem])
 |(refine ah.one (lk g k ⟨v.book,v.ax,v.last,b⟩ hn hg1) af rfl ?_;simp only[go_sem])
 |(refine aM.bG ae ?_;(try simp only[go_sem]))
 |(
  refine aa.ret ?_
  refine aB.is ?_;simp only[go_sem,aE,aI,aH,aG,aJ,aF]<;>(try((first|(rw[sL ae];exact⟨⟨rfl,rfl,rfl,rfl,rfl⟩,rfl⟩)|(rw[tz ae hx];(exact⟨⟨rfl,rfl,rfl,rfl,rfl⟩,rfl⟩)))))))
theorem HM(g:Gt)(n:Int)(hg:bP g)(hlm:cU g.aT):ai E 117 [aO g,i64 n] (fun r t=>r= .aC [aO (gR g n).1,i64 (gR g n).2]∧t=[]):=by
 have hgi:=hg.fit
 have hg1:=hg.1
 refine ai.aw (n:=28) (rs:=[.cell 4 58,.tmp 5]) Tryz.func117 rfl Tryz.ntmps117 rfl ?_
 repeat'(first
 |refine aa.aj fun K hK=>?_
 |(
  refine aa.here 3 12 7 rfl ?_
  obtain⟨k,v,rfl,hx⟩:=fk ae
  have hv:=hg.2.2 v (List.mem_of_getElem? hx)
  have hn:=bM hx
  refine aa.region ?_;simp only[go_sem])
 |(refine aa.region ?_;simp only[go_sem])
 |(refine hK _ ?_;clear hK K)
 |refine aa.cond rfl (fun c=>?_) (fun c=>?_)<;>(try simp only[dD] at c)
 |refine aa.skip ?_
 |(refine ah.one (fE g n hgi hlm) af rfl ?_;simp only[go_sem])
 |(refine ah.one (lk g k ⟨⟨v.book.ak,v.book.al,v.book.ids,v.book.clock,0⟩,v.ax,v.last,v.bB⟩ hn hg1) af rfl ?_;simp only[go_sem])
 |(refine aM.bG ae ?_;(try simp only[go_sem]))
 |(
  refine aa.ret ?_
  refine aB.is ?_;simp only[go_sem,aE,aI,aH,aG,aJ,aF]<;>(try((first|(rw[sF ae];exact⟨⟨rfl,rfl,rfl,rfl,rfl⟩,rfl⟩)|(rw[vf ae hx ae];exact⟨⟨rfl,rfl,rfl,rfl,rfl⟩,rfl⟩)|(rw[vX ae hx ae];(exact⟨⟨rfl,rfl,rfl,rfl,rfl⟩,rfl⟩)))))))
end Go.Proofs.YtajeeghgiilhiaaGreat
end
section
namespace Go.Proofs
open Go.Shelf
def Tryz.Qj:Go.Shelf.Ren:=⟨fun|6=>129|15=>169|14=>182|28=>205|29=>206|20=>217|21=>218|22=>219|23=>220|24=>221|25=>222|26=>223|27=>224|46=>249|47=>229|48=>230|49=>250|50=>251|57=>258|n=>n,fun|22=>174|24=>176|25=>180|3=>3|39=>205|0=>0|53=>53|55=>201|4=>4|46=>226|45=>225|50=>148|5=>5|9=>9|66=>243|70=>247|76=>263|77=>264|n=>n,fun|n=>n⟩
theorem Tryz.A0:Go.Proofs.SlLaysF0.n6 Tryz.prog Tryz.Qj:={
 mixed:=by kernel_rfl
 f6:=⟨Tryz.f129.name,by decide,Tryz.func129.trans (congrArg some af)⟩
 f14:=⟨Tryz.f182.name,by decide,Tryz.func182.trans (congrArg some af)⟩
 f15:=Tryz.func169.trans (congrArg some af)
 f20:=⟨Tryz.f217.name,by decide,Tryz.func217.trans (congrArg some af)⟩
 f21:=⟨Tryz.f218.name,by decide,Tryz.func218.trans (congrArg some af)⟩
 f22:=⟨Tryz.f219.name,by decide,Tryz.func219.trans (congrArg some af)⟩
 f23:=⟨Tryz.f220.name,by decide,Tryz.func220.trans (congrArg some af)⟩
 f24:=⟨Tryz.f221.name,by decide,Tryz.func221.trans (congrArg some af)⟩
 f25:=⟨Tryz.f222.name,by decide,Tryz.func222.trans (congrArg some af)⟩
 f26:=⟨Tryz.f223.name,by decide,Tryz.func223.trans (congrArg some af)⟩
 f27:=⟨Tryz.f224.name,by decide,Tryz.func224.trans (congrArg some af)⟩
 f28:=Tryz.func205.trans (congrArg some af)
 f29:=Tryz.func206.trans (congrArg some af)
 f46:=⟨Tryz.f249.name,by decide,Tryz.func249.trans (congrArg some af)⟩
 f47:=Tryz.func229.trans (congrArg some af)
 f48:=Tryz.func230.trans (congrArg some af)
 f49:=⟨Tryz.f250.name,by decide,Tryz.func250.trans (congrArg some af)⟩
 f50:=⟨Tryz.f251.name,by decide,Tryz.func251.trans (congrArg some af)⟩
 f57:=⟨Tryz.f258.name,by decide,Tryz.func258.trans (congrArg some af)⟩
 t0:=Tryz.underlying0
 a0:=Tryz.isAgg0
 z0:=Tryz.sizeOf0
 v0:=Tryz.zeroValue0
 t3:=Tryz.underlying3
 a3:=Tryz.isAgg3
 z3:=Tryz.sizeOf3
 v3:=Tryz.zeroValue3
 t4:=Tryz.underlying4
 a4:=Tryz.isAgg4
 z4:=Tryz.sizeOf4
 v4:=Tryz.zeroValue4
 t5:=Tryz.underlying5
 a5:=Tryz.isAgg5
 z5:=Tryz.sizeOf5
 v5:=Tryz.zeroValue5
 t9:=Tryz.underlying9
 a9:=Tryz.isAgg9
 z9:=Tryz.sizeOf9
 v9:=Tryz.zeroValue9
 t22:=Tryz.underlying174
 a22:=Tryz.isAgg174
 z22:=Tryz.sizeOf174
 v22:=Tryz.zeroValue174
 t25:=Tryz.underlying180
 a25:=Tryz.isAgg180
 z25:=Tryz.sizeOf180
 v25:=Tryz.zeroValue180
 t39:=Tryz.underlying205
 a39:=Tryz.isAgg205
 z39:=Tryz.sizeOf205
 v39:=Tryz.zeroValue205
 t45:=Tryz.underlying225
 a45:=Tryz.isAgg225
 z45:=Tryz.sizeOf225
 v45:=Tryz.zeroValue225
 t46:=Tryz.underlying226
 a46:=Tryz.isAgg226
 z46:=Tryz.sizeOf226
 v46:=Tryz.zeroValue226
 t50:=Tryz.underlying148
 a50:=Tryz.isAgg148
 z50:=Tryz.sizeOf148
 v50:=Tryz.zeroValue148
 t53:=Tryz.underlying53
 a53:=Tryz.isAgg53
 z53:=Tryz.sizeOf53
 v53:=Tryz.zeroValue53
 t55:=Tryz.underlying201
 a55:=Tryz.isAgg201
 z55:=Tryz.sizeOf201
 v55:=Tryz.zeroValue201
 t66:=Tryz.underlying243
 a66:=Tryz.isAgg243
 z66:=Tryz.sizeOf243
 v66:=Tryz.zeroValue243
 t70:=Tryz.underlying247
 a70:=Tryz.isAgg247
 z70:=Tryz.sizeOf247
 v70:=Tryz.zeroValue247
 t76:=Tryz.underlying263
 a76:=Tryz.isAgg263
 z76:=Tryz.sizeOf263
 v76:=Tryz.zeroValue263
 t77:=Tryz.underlying264
 a77:=Tryz.isAgg264
 z77:=Tryz.sizeOf264
 v77:=Tryz.zeroValue264 }
end Go.Proofs
end
section
namespace Go.Abs
open Go Go.RowKit Go.Sort Go.Proofs Go.Maps
theorem IX{w:World}{g n:Nat}{os:Array Obj}{d:Array Value}{cur:Array Value}{e:TypeId}{fz:Nat×Nat}(hb:w.heap[g]?=some (.cells cur e fz)):
 (grow (putRow id (Sort.ahead w n) g 0 d) os).heap[g]?=some (.cells (putCells id 0 d cur) e fz):=by
 have hlt:=(Array.getElem?_eq_some_iff.1 hb).1
 rw[heap_grow_old _ _ (by simpa using hlt)]
 simp[putRow,mapBlock,Sort.ahead,Array.getElem?_modify,hb,onCells]
theorem GW{w:World}{n g:Nat}{os:Array Obj}(d:Array Value):w.grownBy (grow (putRow id (Sort.ahead w n) g 0 d) os) (some g):=
 ⟨rfl,rfl,rfl,by simp[grow,putRow,mapBlock,Sort.ahead],fun k hk hne=>by
   rw[heap_grow_old _ _ (by simpa[putRow,mapBlock,Sort.ahead] using hk)]
   have:g≠k:=fun e=>hne (by rw[e])
   simp[putRow,mapBlock,Sort.ahead,Array.getElem?_modify,this]⟩
theorem an.Dc{E:Env}{Q:Exit→St→Prop}{st:St}{ops:Array Oper}{rest:List Oper}{g gc:FuncId}{dst:Option Tmp}{f x y:Operand}{tys:Array TypeId}{ty:TypeId}{pos:String}{after:Array Edge}
 {α:Type} [Inhabited α] (enc:α→List Value) (k:Nat) (fV:α→AV) (hk0:0<k) (hk:∀z,(enc z).length=k) (hf:∀z,(fV z).leaves=(enc z).map AV.v) (h1c:∀z,∀v∈enc z,v.oneCell'=true)
 (hc:au E.P g=true) (he:st.ev f= .fn g []) (hy:st.ev y= .fn gc [])
 (F:List α→List α) (hF:∀l,(F l).length=l.length)
 (hsort:∀(bc cap:Nat) (l:List α) (w:World),HoldsK enc k w bc 0 l.toArray→bc<w.heap.size→l.length<4611686018427387904→
   Calls E.P g #[.slice (some ⟨bc,0,none⟩) l.length cap,.func (.func gc) #[] #[]] w fun e w'=>e= .returned (.tuple #[])∧∃n os,w'=grow (putRowK enc k (Sort.ahead w n) bc 0 (F l).toArray) os)
 (hnone:∀(p:Option Addr) (cap:Nat) (w:World),Calls E.P g #[.slice p 0 cap,.func (.func gc) #[] #[]] w fun e w'=>e= .returned (.tuple #[])∧w'=w)
 {id cap:Nat} {l:List α} {sp:List AV} (hx:st.ev x= .mu id k 0 l.length cap) (ho:st.own[id]?=some (some (l.map fV++sp))) (hsz:l.length≤1000000)
 (h:an E ops rest Q (St.put { st with own:=st.own.set id (some ((F l).map fV++sp)) } dst (.aC []))):
 an E ops (⟨dst,.call ⟨.value f,#[x,y],tys⟩,ty,pos,after,none⟩::rest) Q st:=by
 refine an.zN hc he fun w0 im0 cx a w vs h0 hG r hpw=>?_
 obtain⟨hn,hp⟩:=hpw
 obtain⟨v,u,rfl⟩:∃v u,vs=[v,u]:=by
  match vs,hn with
  |[v,u],_=>exact⟨v,u,rfl⟩
 have hv:VR cx (.mu id k 0 l.length cap) v:=by
  have:=hp 0 _ v rfl rfl
  rwa[←hx]
 have hu:u= .func (.func gc) #[] #[]:=by
  have:=hp 1 _ u rfl rfl
  rw[hy] at this
  obtain⟨us,rfl,hnu,_⟩:=this.hZ
  have:us=[]:=List.eq_nil_of_length_eq_zero (by simpa using hnu)
  rw[this]
 subst hu
 have hF0:F []=[]:=List.eq_nil_of_length_eq_zero (hF [])
 have same:l=[]→{ st with own:=st.own.set id (some ((F l).map fV++sp)) }=st:=fun e=>by
  subst e
  have e1:st.own.set id (some ((F []).map fV++sp))=st.own:=by
   apply List.ext_getElem?
   intro j
   rw[List.getElem?_set]
   split
   ·rename_i hj;subst hj
    rw[if_pos (bN ho),ho];simp[hF0]
   ·rfl
  rw[e1]
 rcases hv.c0 with⟨b,hb,hcap,rfl⟩|⟨hl,rfl,rfl⟩
 ·rcases Nat.eq_zero_or_pos l.length with hz|hz
  ·have hl:l=[]:=List.eq_nil_of_length_eq_zero hz
   subst hl
   refine(hnone _ cap w).mono ?_
   rintro e w' ⟨rfl,rfl⟩
   exact⟨_,rfl,cx,st,.aC [],r,.aC [] [] rfl aD,by rw[same rfl] at h;exact h⟩
  ·have hOK:=r.own id b k _ hb ho
   obtain⟨cs,te,lo,hi,hblk,hfr,hsize,hlv,hcell⟩:=hOK.bc
   have hdiv:∀{n t:Nat},t<n*k→t/k<n:=fun{n t} h=>Nat.div_lt_of_lt_mul (by rw[Nat.mul_comm];exact h)
   have hleaf:∀(m:List α) (i j:Nat),i<m.length→j<k→(fV m[i]!).leaves[j]?=some (.v (enc m[i]!)[j]!):=fun m i j hi hj=>by
    rw[hf,List.getElem?_map,List.getElem?_eq_getElem (by rw[hk];exact hj),getElem!_pos (enc m[i]!) j (by rw[hk];exact hj)];rfl
   have hget:∀t,t<l.length*k→cs[t]?=some (flatK enc k l.toArray)[t]! :=fun t ht=>by
    have hi:=hdiv ht
    have hj:=Nat.mod_lt t hk0
    have e1:(l.map fV++sp)[t/k]?=some (fV l[t/k]!):=by
     rw[List.getElem?_append_left (by simpa using hi)]
     simp[hi]
    obtain⟨v,hv,hvr,_⟩:=hcell (t/k) _ (t%k) _ e1 (hleaf l _ _ hi hj)
    rw[hvr.bD] at hv
    rw[show t/k*k+t%k=t by rw[Nat.mul_comm];exact Nat.div_add_mod t k] at hv
    rw[hv,get_flatK _ _ _ t (by simpa using ht)]
    simp
   have hH:HoldsK enc k w b 0 l.toArray:=fun t ht=>by
    have ht':t<l.length*k:=by simpa using ht
    have e2:=hget t ht'
    have hlt:t<cs.size:=(Array.getElem?_eq_some_iff.1 e2).1
    constructor
    ·simp only[World.cell?,hblk,Nat.zero_add,e2]
     try simp
    ·simp only[World.frozen?,hblk,Nat.zero_add]
     rcases hfr with rfl|hfr
     ·first|(simp;done)|(simp;omega)
     ·first|(simp;done)|(simp;omega)
   have hbs:b<w.heap.size:=r.jQ hb ho
   rw[Nat.zero_mul]
   refine(hsort b cap l w hH hbs ab).mono ?_
   rintro e w' ⟨rfl,n,os,rfl⟩
   refine⟨_,rfl,cx,{ st with own:=st.own.set id (some ((F l).map fV++sp)) },.aC [],?_,.aC [] [] rfl aD,h⟩
   obtain⟨G,hG'⟩:∃G,flatK enc k (F l).toArray=G:=⟨_,rfl⟩
   have hGs:G.size=l.length*k:=by rw[←hG',size_flatK];simp[hF]
   have hGg:∀t,t<l.length*k→G[t]! =(enc (F l)[t/k]!)[t%k]! :=fun t ht=>by
    rw[←hG',get_flatK _ _ _ t (by simpa[hF] using ht)]
    simp
   unfold putRowK
   rw[hG']
   obtain⟨w1,hw1⟩:∃w1,putRow _root_.id (Sort.ahead w n) b 0 G=w1:=⟨_,rfl⟩
   have hw1':grow w1 #[]=w1:=grow_empty w1
   have hsz1:w1.heap.size=w.heap.size:=by rw[←hw1];simp[putRow,mapBlock,Sort.ahead]
   have r1:Rel w0 im0 cx { st with own:=st.own.set id (some ((F l).map fV++sp)) } a w1:=by
    refine r.l9 hb ho (fun d hd=>?_) ?_ ?_
    ·rw[←hw1]
     simp[putRow,mapBlock,Sort.ahead,Array.getElem?_modify,Ne.symm hd]
    ·rw[←hw1',←hw1]
     exact r.below.grown (GW G) r.below.size (fun j hj=>by cases hj;exact hOK.new) (Nat.le_add_right _ _)
    ·refine⟨_,te,lo,hi,(by rw[←hw1',←hw1];exact IX hblk),?_,?_,?_,?_⟩
     ·simpa[putCells] using hfr
     ·simp only[List.length_append,List.length_map,hF] at hsize ⊢
      simpa[putCells] using hsize
     ·intro i e he
      rcases na _ _ _ _ he with⟨h1,h2⟩|⟨h1,h2⟩
      ·rw[List.getElem?_map] at h2
       cases hq:(F l)[i]? with
       |none=>simp[hq] at h2
       |some z=>simp only[hq,Option.map_some,Option.some.injEq] at h2;subst h2;rw[hf,List.length_map,hk]
      ·refine hlv i e ?_
       rw[List.length_map,hF] at h1 h2
       rw[List.getElem?_append_right (by rw[List.length_map];exact h1),List.length_map];exact h2
     ·intro i e j y he hy
      rcases na _ _ _ _ he with⟨h1,h2⟩|⟨h1,h2⟩
      ·rw[List.length_map,hF] at h1
       have h1':i<(F l).length:=by rw[hF];exact h1
       have hq:e=fV (F l)[i]! :=by
        rw[List.getElem?_map,List.getElem?_eq_getElem h1'] at h2
        rw[getElem!_pos (F l) i h1']
        exact(Option.some.inj h2).symm
       subst hq
       have hj:j<k:=by
        have:=(List.getElem?_eq_some_iff.1 hy).1
        rwa[hf,List.length_map,hk] at this
       rw[hleaf (F l) i j h1' hj] at hy
       simp only[Option.some.injEq] at hy;subst hy
       have ht:i*k+j<l.length*k:=by
        have:=Nat.mul_le_mul_right k (show i+1≤l.length from h1)
        rw[Nat.add_mul,Nat.one_mul] at this;omega
       have hlt:i*k+j<cs.size:=(Array.getElem?_eq_some_iff.1 (hget _ ht)).1
       refine⟨(enc (F l)[i]!)[j]!,?_,.base (.v _),.inr (h1c _ _ (by rw[getElem!_pos _ j (by rw[hk];exact hj)];exact List.getElem_mem _))⟩
       simp only[putCells,Array.getElem?_mapIdx,Array.getElem?_eq_getElem hlt,Option.map_some]
       rw[if_pos ⟨Nat.zero_le _,by rw[hGs];omega⟩,Nat.sub_zero,hGg _ ht]
       have d1:(i*k+j)/k=i:=by rw[Nat.mul_comm,Nat.mul_add_div hk0,Nat.div_eq_of_lt hj,Nat.add_zero]
       have d2:(i*k+j)%k=j:=by rw[Nat.mul_comm,Nat.mul_add_mod,Nat.mod_eq_of_lt hj]
       rw[d1,d2];rfl
      ·have h3:(l.map fV++sp)[i]?=some e:=by
        rw[List.length_map,hF] at h1 h2
        rw[List.getElem?_append_right (by rw[List.length_map];exact h1),List.length_map];exact h2
       obtain⟨v,hv,hvr,hv1⟩:=hcell i e j y h3 hy
       refine⟨v,?_,hvr,hv1⟩
       rw[List.length_map,hF] at h1
       have hlt:=(Array.getElem?_eq_some_iff.1 hv).1
       simp only[putCells,Array.getElem?_mapIdx,Array.getElem?_eq_getElem hlt,Option.map_some]
       have hns:¬(0≤i*k+j∧i*k+j<0+G.size):=by
        have:=Nat.mul_le_mul_right k (show l.length≤i from h1)
        rw[hGs];omega
       rw[if_neg hns]
       rw[Array.getElem?_eq_getElem hlt] at hv;exact hv
   rw[hw1]
   exact r1.ext (w':=grow w1 os) ((Below.refl _ w1).grown (w':=grow w1 os) (row:=none) ⟨rfl,rfl,rfl,by simp[grow],fun k hk _=>heap_grow_old _ _ hk⟩ (Nat.le_refl _) (fun j hj=>by cases hj) (Nat.le_refl _))
 ·have hl:l=[]:=List.eq_nil_of_length_eq_zero hl
  subst hl
  refine(hnone _ 0 w).mono ?_
  rintro e w' ⟨rfl,rfl⟩
  exact⟨_,rfl,cx,st,.aC [],r,.aC [] [] rfl aD,by rw[same rfl] at h;exact h⟩
end Go.Abs
end
section
namespace Go.Proofs.YtajeeghgiilhiaaGreat
open Go Go.Abs Go.RowKit Go.Bk
abbrev da(x:Bs×Bs):AV:= .agg [str x.1,str x.2]
theorem Vf(s:Bs):ai ED 183 [str s] (fun r t=>r=bl false∧t=[]):=by
 refine ai.aw (n:=6) (rs:=[.tmp 2]) Tryz.func183 rfl Tryz.ntmps183 rfl ?_
 repeat'(first
 |refine aa.aj fun K hK=>?_
 |(refine aa.region ?_;simp only[go_sem])
 |(refine hK _ ?_;clear hK K)
 |(
  refine aa.ret ?_
  refine aB.is ?_;simp only[go_sem,aE,aI,aH,aG,aJ,aF]<;>(simp;done)))
theorem CL(s u:Bs):ai ED 132 [str s,str u] (fun r t=>r=i64 (gC s u)∧t=[]):=by
 refine ai.aw (n:=20) (rs:=[.tmp 4]) Tryz.func132 rfl Tryz.ntmps132 rfl ?_
 repeat'(first
 |refine aa.aj fun K hK=>?_
 |(refine aa.region ?_;simp only[go_sem,Go.Proofs.bytesLess_eq])
 |(refine hK _ ?_;clear hK K)
 |refine aa.cond rfl (fun c=>?_) (fun c=>?_)<;>first|exact Bool.noConfusion c|(try simp only[dD] at c)
 |refine aa.skip ?_
 |(refine ah.one (Vf _) af rfl ?_;simp only[go_sem,Go.Proofs.bytesLess_eq])
 |(
  refine aa.ret ?_
  refine aB.is ?_;simp only[go_sem,aE,aI,aH,aG,aJ,aF]<;>(simp only[gC];(try simp only[decide_eq_true_eq,decide_eq_false_iff_not,Bool.or_eq_true,Bool.or_eq_false_iff,not_or,Bool.not_eq_true,Bool.not_eq_false] at *);first|(rw[if_pos ae];done)|(simp_all;done)|(rcases ‹_∨_› with h3|h3<;>simp_all;done))))
theorem P9(x y:Int):ai ED 131 [.sl none 1 [i64 x,i64 y]] (fun r t=>r=i64 (if x≠0 then x else y)∧t=[]):=by
 refine ai.aw (n:=18) (rs:=[.tmp 2]) Tryz.func131 rfl Tryz.ntmps131 rfl ?_
 repeat'(first
 |refine aa.aj fun K hK=>?_
 |(
  refine aa.here 4 10 3 rfl ?_
  obtain⟨z,hz2,hzz⟩:∃z,([i64 x,i64 y]:List AV)[i]?=some (i64 z)∧(i=0∧z=x∨i=1∧z=y):=by
   rcases i with _|_|i
   ·exact⟨x,rfl,.inl ⟨rfl,rfl⟩⟩
   ·exact⟨y,rfl,.inr ⟨rfl,rfl⟩⟩
   ·exfalso;omega
  refine aa.region ?_;simp only[go_sem,hz2])
 |(refine aa.region ?_;simp only[go_sem])
 |(refine hK _ ?_;clear hK K)
 |refine aa.block ?_
 |refine aa.cond rfl (fun c=>?_) (fun c=>?_)<;>(try simp only[dD] at c)
 |refine aa.skip ?_
 |(refine aa.exit ?_;simp only[go_sem])
 |((with_reducible refine And.intro ?_ ?_);(focus((simp;done)));(try simp only[hb,go_sem]))
 |(
  refine aa.here 3 9 1 rfl ?_
  refine aa.cC (ι:=Nat) [2,5,9,10,11,12,13,14,15,16] (fun(i:Nat)=>[(8,i64 i)]) (fun(i:Nat)=>i≤2∧(0<i→x=0)∧(1<i→y=0)) (fun(i:Nat)=>2-i) (0) ?_ ?_ ?_
  ·(try simp only[go_sem]);(repeat'(first|fail));done
  ·exact⟨by omega,by omega,by omega⟩
  rintro i ⟨h1,h2,h3⟩
  simp only[go_sem])
 |(
  refine⟨i+1,?_,?_,?_⟩
  ·(try simp only[go_sem]);(try rw[av ab ab]);(repeat'(exact .inr rfl));done
  ·(rcases hzz with⟨rfl,rfl⟩|⟨rfl,rfl⟩<;>exact⟨by omega,by intros;first|assumption|omega,by intros;first|assumption|omega⟩)
  ·(try simp only[]);omega)
 |(
  refine aa.ret ?_
  refine aB.is ?_;simp only[go_sem,aE,aI,aH,aG,aJ,aF]<;>(first|(rcases hzz with⟨rfl,rfl⟩|⟨rfl,rfl⟩<;>simp_all;done)|(have e1:=h2 ab;have e2:=h3 ab;subst e1;subst e2;rfl)))
 |refine aa.fin ae ?_)
theorem Ng(x y:Nm):ai ED 130 [da x,da y] (fun r t=>r=i64 (eA x y)∧t=[]):=by
 refine ai.aw (n:=17) (rs:=[.tmp 4]) Tryz.func130 rfl Tryz.ntmps130 rfl ?_
 repeat'(first
 |refine aa.aj fun K hK=>?_
 |(refine aa.region ?_;simp only[go_sem])
 |(refine aa.here 1 5 13 rfl ?_;refine aa.bf [0,1,2,3,5,6,7,8,4,9,10,11,12] [] af af rfl ?_;simp only[go_sem])
 |(refine hK _ ?_;clear hK K)
 |(refine ah.one (CL x.1 y.1) af rfl ?_;simp only[go_sem])
 |(refine ah.one (CL x.2 y.2) af rfl ?_;simp only[go_sem])
 |(refine ah.one (P9 (gC x.1 y.1) (gC x.2 y.2)) af rfl ?_;simp only[go_sem])
 |(
  refine aa.ret ?_
  refine aB.is ?_;simp only[go_sem,aE,aI,aH,aG,aJ,aF]<;>(rfl)))
theorem grown_of{W w':World}(h:Go.Abs.Below True W.heap.size W w'):∃q os',w'=Go.Sort.grow (W.drewN q) os':=by
 refine⟨w'.drawn-W.drawn,w'.heap.extract W.heap.size w'.heap.size,?_⟩
 have hd:=h.drawn trivial
 have hs:=h.size
 obtain⟨hp,tp,dr,os,out⟩:=w'
 have h1:os=W.os:=h.os
 have h2:tp=W.tape:=h.tape
 have h3:out=W.output:=h.output
 subst h1;subst h2;subst h3
 have hh:hp=W.heap++hp.extract W.heap.size hp.size:=by
  apply Array.ext_getElem?
  intro i
  rcases Nat.lt_or_ge i W.heap.size with hi|hi
  ·rw[Array.getElem?_append_left hi];exact h.block i hi
  ·rw[Array.getElem?_append_right hi,Array.getElem?_extract]
   simp only[] at hs
   rcases Nat.lt_or_ge i hp.size with hi2|hi2
   ·rw[if_pos (by simp only[Nat.min_self];omega)]
    congr 1;omega
   ·rw[if_neg (by simp only[Nat.min_self];omega),Array.getElem?_eq_none hi2]
 show(⟨hp,W.tape,dr,W.os,W.output⟩:World)=⟨W.heap++hp.extract W.heap.size hp.size,W.tape,W.drawn+(dr-W.drawn),W.os,W.output⟩
 rw[←hh,Nat.add_sub_of_le hd]
def j0(x:Nm):List Value:=[.string ⟨x.1.toArray⟩,.string ⟨x.2.toArray⟩]
theorem Nb(bc off size:Nat)(w:World):Go.Proofs.CmpLays Tryz.prog 130 #[] j0 2 eA bc off size w:=by
 intro m os dk hs x y
 have h:=Ng x y (Go.Proofs.sortWorldK j0 2 w bc off m dk os) (fun _ _=>none) [.agg (j0 x).toArray,.agg (j0 y).toArray] trivial (fun g cs hg=>by cases hg) (fun _ _ _ hx=>by cases hx)
  ⟨rfl,fun i z v h1 h2=>by
    rcases i with _|_|i
    ·cases h1;cases h2
     exact .agg _ _ rfl (fun j y' u hy hu=>by
      rcases j with _|_|j
      ·cases hy;cases hu;exact .v _
      ·cases hy;cases hu;exact .v _
      ·simp at hy)
    ·cases h1;cases h2
     exact .agg _ _ rfl (fun j y' u hy hu=>by
      rcases j with _|_|j
      ·cases hy;cases hu;exact .v _
      ·cases hy;cases hu;exact .v _
      ·simp at hy)
    ·simp at h1⟩
 refine h.mono ?_
 rintro e w' ⟨v,r,tks,im',rfl,hb,_,_,_,_,hv,rfl,_⟩
 have:=hv.bD
 subst this
 exact⟨rfl,grown_of hb⟩
end Go.Proofs.YtajeeghgiilhiaaGreat
end
