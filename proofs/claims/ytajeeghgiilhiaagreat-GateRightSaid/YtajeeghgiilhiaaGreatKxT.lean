/- (G41) -/
import Derived.Test.YtajeeghgiilhiaaGreatKxSb
import Derived.Test.YtajeeghgiilhiaaGreatKxA
set_option linter.unusedVariables false
set_option linter.unusedSimpArgs false
set_option maxHeartbeats 16000000
set_option maxRecDepth 8000
section
namespace Go.Proofs.YtajeeghgiilhiaaGreat
open Go Go.Abs Go.RowKit Go.Bk
theorem Fv(g:Gt)(k:Nat)(w:Vn)(nb:Bk)(p:Nat)(hk:k<g.ao.length)(hl:g.ao.length≤1000000):ai E 177 [aO g,i64 (k:Int),.agg [aV nb.ak,cg nb.al,.sl none 1 (nb.ids.map str),i64 nb.clock,i64 nb.bad,.sl none 8 ((w.ax.take p++w.ax.drop (p+1)).map a8),i64 g.now,bl w.bB]] (fun r t=>r=aO (cq g k ⟨nb,w.ax.eraseIdx p,g.now,w.bB⟩)∧t=[]):=by
 have h:=lk g k ⟨nb,w.ax.eraseIdx p,g.now,w.bB⟩ hk hl
 rw[←List.eraseIdx_eq_take_drop_succ]
 exact h
section
variable{g:Gt}{k:Nat}{x:Ex}{w:Vn}{nb:Bk}{kk:Int}
theorem yV(ha:ba g (k:Int)=true)(hx0:g.ao[k]?=some w)(hcf:bj w.book x=(nb,kk))(hk:kk=2∨kk=4)(hnb:nb=w.book):cr g (k:Int) x=(cq g k ⟨nb,w.ax,w.last,w.bB⟩,kk,0):=by
 subst hnb
 rw[BQ ha hx0 hcf hk]
 show(g,kk,0)=(cq g k w,kk,0)
 rw[O3 hx0]
theorem X5{a:Int}(ha:ba g (k:Int)=true)(hx0:g.ao[k]?=some w)(hcf:bj w.book x=(nb,kk))(hr:bd w.ax=true)(hat:a=fM w.ax x)(hk:kk=3)(h:¬(x.kind=1∨x.kind=4)∨¬a<0):cr g (k:Int) x=(cq g k ⟨nb,w.ax,w.last,w.bB⟩,kk,0):=by
 subst hk
 exact xj (p:=a.toNat) ha hx0 hcf fun hop=>Aj hr hop (by rw[←hat];omega)
theorem YJ{a:Int}(ha:ba g (k:Int)=true)(hx0:g.ao[k]?=some w)(hcf:bj w.book x=(nb,kk))(hr:bd w.ax=true)(hat:a=fM w.ax x)(hk4:1≤kk∧kk≤4)(hk:¬kk=1)(hnb:kk=2∨kk=4→nb=w.book)(h:¬(x.kind=1∨x.kind=4)∨¬a<0):cr g (k:Int) x=(cq g k ⟨nb,w.ax,w.last,w.bB⟩,kk,0):=by
 by_cases h3:kk=3
 ·exact X5 ha hx0 hcf hr hat h3 h
 ·exact yV ha hx0 hcf ab (hnb ab)
theorem XV(ha:ba g (k:Int)=true)(hx0:g.ao[k]?=some w)(hcf:bj w.book x=(nb,kk))(hk:kk=1)(ho:¬(x.kind=1∨x.kind=4)):cr g (k:Int) x=(cq g k ⟨nb,w.ax,g.now,w.bB⟩,kk,0):=by
 subst hk
 exact Ap ha hx0 hcf ho
theorem Ry{a:Int}(ha:ba g (k:Int)=true)(hx0:g.ao[k]?=some w)(hcf:bj w.book x=(nb,kk))(hr:bd w.ax=true)(hat:a=fM w.ax x)(hk:kk=1∨kk=3)(ho:x.kind=1∨x.kind=4)(h:a<0):cr g (k:Int) x=(cq g k (js w x),3,0):=
 B3 ha hx0 hcf hk ho (Fs hr ho ab)
theorem Gp{p:Nat}(ha:ba g (k:Int)=true)(hx0:g.ao[k]?=some w)(hcf:bj w.book x=(nb,kk))(hr:bd w.ax=true)(hat:(p:Int)=fM w.ax x)(hk:kk=1)(ho:x.kind=1∨x.kind=4):cr g (k:Int) x=(cq g k ⟨nb,w.ax.eraseIdx p,g.now,w.bB⟩,kk,0):=by
 subst hk
 exact Bo ha hx0 hcf ho (Aj hr ho hat)
end
theorem Vk(g:Gt)(k:Nat)(w:Vn)(x:Ex)(hg:bP g)(hlm:cU g.aT)(hx0:g.ao[k]?=some w)(ha:ba g (k:Int)=true)(hxo:iF x)(nb:Bk)(kk:Int)(hk0:¬kk=0)(hk4:1≤kk∧kk≤4)(hcf:bj w.book x=(nb,kk))(hnb:kk=2∨kk=4→nb=w.book):ai E 114 [aO g,i64 (k:Int),ar x] (fun r t=>r= .aC [aO (cr g (k:Int) x).1,i64 (cr g (k:Int) x).2.1,i64 (cr g (k:Int) x).2.2]∧t=[]):=by
 have hgi:=hg.fit
 have hg1:=hg.1
 have hn:=bM hx0
 have hv:=hgi.2.2 w (List.mem_of_getElem? hx0)
 have hrv:=iH (jW ha hx0)
 have hidl:=(hg.2.2 w (List.mem_of_getElem? hx0)).2.2.1
 refine ai.aw (n:=158) (rs:=[.cell 6 58,.tmp 7,.tmp 8]) Tryz.func114 rfl Tryz.ntmps114 rfl ?_
 repeat'(first
 |(
  refine aa.ky hc9 ?_
  first|(refine aa.weaken ?_ (hc9 ⟨_,DR ab⟩);clear hc9;(try simp only[go_sem]);(repeat'(first|refine And.intro ?_ ?_|trivial|exact .inr (aR rfl)));done)|(refine aa.weaken ?_ (hc9 ⟨_,Ks hpf hoo (by(try clear hc9);(try clear hK);simp[l6, *])⟩);clear hc9;(try simp only[go_sem]);(repeat'(first|refine And.intro ?_ ?_|trivial|exact .inr (aR rfl)));done)|(refine aa.weaken ?_ (hc9 ⟨_,UT hpf hoo (by(try clear hc9);(try clear hK);simp[l6, *])⟩);clear hc9;(try simp only[go_sem]);(repeat'(first|refine And.intro ?_ ?_|trivial|exact .inr (aR rfl)));done))
 |refine aa.aj fun K hK=>?_
 |(
  refine aa.here 9 42 7 rfl ?_
  first
  |(have h0:=hc9;clear h0;refine aa.cond rfl (fun c=>?_) (fun c=>?_)<;>(try simp only[dD] at c))
  |((fail_if_success(have h0:=hc9));refine aa.cutAt (ι:={a:Int // a=fM w.ax x}) [13,39,40,41,42,43,44,45,46,47,48,49,50,51,52,53,54,55,56,57,58,59,60,61,62,63,64,65,66,67,68,69,70,71,72,73,74,75,76,77,78,79,80,81,82,83,84,85,86,87,88,89] (fun⟨a,hat⟩=>[(12,i64 a)]) (fun⟨a,hat⟩=>[some [aO g],some [ar x],some [.agg [.aQ,.aQ,bl false,i64 0,i64 0]],some [aS w],some [dx nb]]) (fun⟨a,hat⟩=>[]) hK (fun ii=>?_) (fun hc9=>?_)))
 |(refine Cut.mk ?_;obtain⟨a,hat⟩:=ii;simp only[go_sem])
 |(
  refine aa.here 21 140 14 rfl ?_
  obtain⟨p,rfl⟩:∃p:Nat,a=(p:Int):=⟨a.toNat,by omega⟩
  have hpl:=Xt hat
  have hwp:IntKind.i64.wrap ((p:Int)+1)=((p+1:Nat):Int):=by rw[av ab ab];omega
  refine aa.gZ (.take 1 (.take 2 (.take 3 (.take 4 (.take 6 (.take 7 (.take 8 (.take 9 (.take 10 (.take 0 (.take 5 (.take 11 (.take 12 (.take 13 .done)))))))))))))) [[],[],[1],[],[1,2,3],[0,1,2,3,4],[],[6],[],[8],[6,7,8,9],[0,1,2,3,4,5,6,7,8,9,10],[0,1,2,3,4,5,6,7,8,9,10,11],[0,1,2,3,4,5,6,7,8,9,10,11,12]] [] af af ?_;simp only[go_sem,ha,hwp,Int.toNat_natCast,List.length_take,List.length_drop])
 |(refine aa.region ?_;simp only[go_sem,ha])
 |(refine aa.here 14 111 12 rfl ?_;refine aa.gZ (.take 1 (.take 2 (.take 3 (.take 5 (.take 6 (.fork (.alt 0 (.fork (.alt 4 (.take 7 (.take 8 (.take 9 (.take 10 (.take 11 .done))))) (.alt 7 (.take 4 (.take 8 (.take 9 (.take 10 (.take 11 .done))))) .ends))) (.alt 7 (.take 0 (.take 4 (.take 8 (.take 9 (.take 10 (.take 11 .done)))))) .ends)))))))) [[],[],[1],[1,2],[0,1,2,3],[],[5],[5,6],[0,1,2,3,4,5,6,7],[0,1,2,3,4,5,6,7,8],[0,1,2,3,4,5,6,7,8,9],[0,1,2,3,4,5,6,7,8,9,10]] [] af af ?_;simp only[go_sem,ha])
 |(refine hK _ ?_;clear hK K)
 |refine aa.cond rfl (fun c=>?_) (fun c=>?_)<;>first|exact Bool.noConfusion c|(try simp only[dD] at c)
 |refine aa.skip ?_
 |(refine ah.one (fE g (k:Int) hgi hlm) af rfl ?_;simp only[go_sem,ha])
 |(refine ah.one (uC w.book x hxo hv.1 hv.2.1 hv.2.2.1) af rfl ?_;simp only[hcf];simp only[go_sem,ha])
 |(refine ah.one (fY w.ax x.ord hv.2.2.2) af rfl ?_;simp only[go_sem,ha])
 |(refine ah.one (XC g k w x hn hg1) af rfl ?_;simp only[go_sem,ha])
 |(refine ah.one (lk g k ⟨nb,w.ax,g.now,w.bB⟩ hn hg1) af rfl ?_;simp only[go_sem,ha])
 |(refine ah.one (lk g k ⟨nb,w.ax,w.last,w.bB⟩ hn hg1) af rfl ?_;simp only[go_sem,ha])
 |(refine ah.one (Fv g k w nb p hn hg1) af rfl ?_;simp only[go_sem,ha])
 |(refine aL.cc (fun h=>?_) (fun h=>?_)<;>simp only[h,go_sem,ha]<;>(try simp only[dD] at h))
 |(refine aL.split (fun h=>?_) (fun h=>?_)<;>simp only[h,go_sem,ha]<;>(try simp only[dD] at h))
 |(refine aM.bG ae ?_;(try simp only[go_sem,ha]))
 |((first|refine aM.nth ?_ (fun b hb=>?_)|with_reducible refine And.intro ?_ ?_);(focus(omega));(try simp only[hb,go_sem,ha]))
 |(
  refine aa.ret ?_
  refine aB.is ?_;simp only[go_sem,aE,aI,aH,aG,aJ,aF]<;>(first|(rw[YJ ha hx0 hcf hrv.2.1 hat hk4 ab hnb ab];(exact⟨⟨rfl,rfl,rfl,rfl,rfl⟩,rfl,rfl⟩))|(rw[yV ha hx0 hcf ab (hnb ab)];(exact⟨⟨rfl,rfl,rfl,rfl,rfl⟩,rfl,rfl⟩))|(rw[XV ha hx0 hcf ab ab];(exact⟨⟨rfl,rfl,rfl,rfl,rfl⟩,rfl,rfl⟩))|(rw[Ry ha hx0 hcf hrv.2.1 hat ab ab ab];(exact⟨⟨rfl,rfl,rfl,rfl,rfl⟩,rfl,rfl⟩))|(rw[Gp ha hx0 hcf hrv.2.1 hat ab ab];(exact⟨⟨rfl,rfl,rfl,rfl,rfl⟩,rfl,rfl⟩))|skip))
 |((fail_if_success(have h0:=hoo));obtain⟨m,o,hp,hpf,hoo,hn2⟩:=lW (l:=w.ax) (id:=x.ord) ab;simp only[hp,hoo,go_sem,Int.toNat_natCast])
 |(exfalso;omega)
 |(refine And.intro ?_ ?_))
end Go.Proofs.YtajeeghgiilhiaaGreat
end
