/- (G28, G29, GtG, G41) -/
import Derived.Test.YtajeeghgiilhiaaGreatKwS
import Derived.Test.YtajeeghgiilhiaaGreatKwL
set_option linter.unusedVariables false
set_option linter.unusedSimpArgs false
set_option linter.unusedSectionVars false
set_option maxHeartbeats 16000000
set_option maxRecDepth 8000
section
namespace Go.Proofs.YtajeeghgiilhiaaGreat
open Go Go.Abs Go.RowKit Go.Bk
instance decVn:DecidableEq Vn:=fun a b=>decidable_of_iff (a.book=b.book∧a.ar=b.ar∧a.last=b.last∧a.br=b.br) (by cases a;cases b;simp)
instance decGt:DecidableEq Gt:=fun a b=>decidable_of_iff (a.ak=b.ak∧a.aP=b.aP∧a.kill=b.kill∧a.now=b.now∧a.pat=b.pat) (by cases a;cases b;simp)
theorem SC{x y:Vn}(h1:x.book=y.book)(h2:x.ar=y.ar)(h3:x.last=y.last)(h4:x.br=y.br):x=y:=by cases x;cases y;simp only at h1 h2 h3 h4;subst h1;subst h2;subst h3;subst h4;rfl
section
variable{a b:Gt}
theorem P6(h:¬a.ak.length=b.ak.length):decide (a=b)=false:=decide_eq_false fun e=>h (by rw[e])
theorem EB(h:¬a.aP=b.aP):decide (a=b)=false:=decide_eq_false fun e=>h (by rw[e])
theorem FR(h:¬a.kill=b.kill):decide (a=b)=false:=decide_eq_false fun e=>h (by rw[e])
theorem Va(h:¬a.now=b.now):decide (a=b)=false:=decide_eq_false fun e=>h (by rw[e])
theorem Dd(h:¬a.pat=b.pat):decide (a=b)=false:=decide_eq_false fun e=>h (by rw[e])
theorem rO{i:Nat}{x y:Vn}(hx:a.ak[i]?=some x)(hy:b.ak[i]?=some y)(h:¬x.book=y.book∨¬x.ar=y.ar∨¬x.last=y.last∨¬x.br=y.br):decide (a=b)=false:=decide_eq_false fun e=>by
 rw[e,hy] at hx;cases hx;simp at h
theorem Vj{i:Nat}(h0:a.ak.length=b.ak.length)(hi:a.ak.length≤i)(h:a.ak.take i=b.ak.take i)(h1:a.aP=b.aP)(h2:a.kill=b.kill)(h3:a.now=b.now)(h4:a.pat=b.pat):decide (a=b)=true:=by
 rw[List.take_of_length_le hi,List.take_of_length_le (by omega)] at h
 apply decide_eq_true
 cases a;cases b;simp only at h h1 h2 h3 h4;subst h;subst h1;subst h2;subst h3;subst h4;rfl
end
theorem V4(a b:Gt)(ha:iH a):ae E 37 [aL a,aL b] (fun r t=>r=bl (decide (a=b))∧t=[]):=by
 have ha1:=ha.1
 have ha2:=ha.2.1
 refine ae.av (n:=89) (rs:=[.tmp 4]) Tryz.func37 rfl Tryz.ntmps37 rfl ?_
 repeat'(first
 |refine aa.ab fun K hK=>?_
 |(
  refine aa.here 6 51 14 rfl ?_
  obtain⟨x,hx⟩:∃x,a.ak[i]?=some x:=⟨_,List.getElem?_eq_getElem (by omega)⟩
  obtain⟨y,hy⟩:∃y,b.ak[i]?=some y:=⟨_,List.getElem?_eq_getElem (by omega)⟩
  have hv:=ha.2.2 x (List.mem_of_getElem? hx)
  apply aa.xD (.take 0 (.take 1 (.take 2 (.take 3 (.take 4 (.take 5 (.take 7 (.fork (.alt 6 (.take 8 (.fork (.alt 9 (.take 10 (.take 11 (.take 12 (.take 13 .done)))) (.alt 10 (.fork (.alt 9 (.take 11 (.take 12 (.take 13 .done))) (.alt 11 (.fork (.alt 9 (.take 12 (.take 13 .done)) (.alt 12 (.take 9 (.take 13 .done)) .ends))) .ends))) (.alt 11 (.fork (.alt 9 (.take 10 (.take 12 (.take 13 .done))) (.alt 10 (.fork (.alt 9 (.take 12 (.take 13 .done)) (.alt 12 (.take 9 (.take 13 .done)) .ends))) .ends))) .ends))))) (.alt 10 (.fork (.alt 6 (.take 8 (.fork (.alt 9 (.take 11 (.take 12 (.take 13 .done))) (.alt 11 (.fork (.alt 9 (.take 12 (.take 13 .done)) (.alt 12 (.take 9 (.take 13 .done)) .ends))) .ends)))) (.alt 11 (.fork (.alt 6 (.take 8 (.fork (.alt 9 (.take 12 (.take 13 .done)) (.alt 12 (.take 9 (.take 13 .done)) .ends)))) (.alt 12 (.take 6 (.take 8 (.take 9 (.take 13 .done)))) .ends))) .ends))) (.alt 11 (.fork (.alt 6 (.take 8 (.fork (.alt 9 (.take 10 (.take 12 (.take 13 .done))) (.alt 10 (.fork (.alt 9 (.take 12 (.take 13 .done)) (.alt 12 (.take 9 (.take 13 .done)) .ends))) .ends)))) (.alt 10 (.fork (.alt 6 (.take 8 (.fork (.alt 9 (.take 12 (.take 13 .done)) (.alt 12 (.take 9 (.take 13 .done)) .ends)))) (.alt 12 (.take 6 (.take 8 (.take 9 (.take 13 .done)))) .ends))) .ends))) .ends))))))))))) [[],[0],[],[0,1,2],[0,1,2,3],[],[5],[],[5,6,7],[5,6,7,8],[],[],[0,1,2,3,4,10,11],[0,1,2,3,4,5,6,7,8,9,10,11,12]] [6,7] (by kernel_rfl) (by kernel_rfl) (by decide);simp only[go_sem])
 |(refine aa.region ?_;simp only[go_sem])
 |(refine hK _ ?_;clear hK K)
 |refine aa.block ?_
 |refine aa.cond rfl (fun c=>?_) (fun c=>?_)<;>first|exact Bool.noConfusion c|(try simp only[dD] at c)
 |refine aa.skip ?_
 |(refine aa.exit ?_;simp only[go_sem])
 |(refine ah.one (Ut a.aP b.aP ha2) (by kernel_rfl) rfl ?_;simp only[go_sem])
 |(refine ah.one (O3 x.book y.book hv.1 hv.2.1 hv.2.2.1) (by kernel_rfl) rfl ?_;simp only[go_sem])
 |(refine ah.one (yZ x.ar y.ar hv.2.2.2) (by kernel_rfl) rfl ?_;simp only[go_sem])
 |(refine aH.split (fun h=>?_) (fun h=>?_)<;>simp only[h,go_sem]<;>(try simp only[dD] at h))
 |(refine aG.bA (by assumption) ?_;(try simp only[go_sem]))
 |((with_reducible refine And.intro ?_ ?_);(focus((simp;done)));(try simp only[hb,go_sem]))
 |exact rfl
 |(
  refine aa.here 4 44 5 rfl ?_
  refine aa.b6 (ι:=Nat) [4,6,7,44,45,46,47,48,49,50,51,52,53,54,55,56,57,58,59,60,61,62,63,64,65,66,67,68,69,70,71,72,73,74,75,76,77,78,79,80,81,82,83,84,85,86,87,88] (fun(i:Nat)=>[(5,i64 i)]) (fun(i:Nat)=>[some [.agg [eD a.ak,bL a.aP,bl a.kill,i64 a.now,i64 a.pat]],some [.agg [eD b.ak,bL b.aP,bl b.kill,i64 b.now,i64 b.pat]]]) (fun(i:Nat)=>[]) (fun(i:Nat)=>i≤a.ak.length∧a.ak.length=b.ak.length∧a.ak.take i=b.ak.take i) (fun(i:Nat)=>a.ak.length-i) (0) ?_ ?_ ?_
  ·(try simp only[go_sem]);(repeat'(first|refine And.intro ?_ ?_|exact .inr (aM rfl)));done
  ·exact⟨by omega,by omega,by simp⟩
  rintro i ⟨h1,h2,h3⟩
  simp only[go_sem]
  have hlim:a.aP=b.aP:=(by assumption)
  have hkil:a.kill=b.kill:=(by assumption)
  have hnow:a.now=b.now:=(by assumption)
  have hpat:a.pat=b.pat:=(by assumption))
 |(
  refine⟨i+1,?_,?_,?_⟩
  ·(try simp only[go_sem]);(try rw[aq (by omega) (by omega)]);(repeat'(first|refine And.intro ?_ ?_|exact .inr rfl|exact .inr (aM rfl)));done
  ·exact⟨by omega,by omega,vV hx hy (SC (by assumption) (by assumption) (by assumption) (by assumption)) h3⟩
  ·(try simp only[]);omega)
 |(
  refine aa.ret ?_
  refine az.is ?_;simp only[go_sem,aB,aE,aF,aA,aC,aD]<;>(try((first|(rw[P6 (by omega)];done)|(rw[EB (by assumption)];done)|(rw[FR (by assumption)];done)|(rw[Va (by assumption)];done)|(rw[Dd (by assumption)];done)|(rw[rO hx hy (.inl (by assumption))];done)|(rw[rO hx hy (.inr (.inl (by assumption)))];done)|(rw[rO hx hy (.inr (.inr (.inl (by assumption))))];done)|(rw[rO hx hy (.inr (.inr (.inr (by assumption))))];done)|(rw[Vj h2 (by omega) h3 hlim hkil hnow hpat];done)))))
 |refine aa.fin (by assumption) ?_)
theorem QL{g:Gt}{k:Nat}{w:Vn}(h:g.ak[k]?=some w):cf g k w=g:=by
 unfold cf
 have e:g.ak.set k w=g.ak:=by
  apply List.ext_getElem?
  intro j
  rw[List.getElem?_set]
  split
  ·rename_i e;subst e;split
   ·exact h.symm
   ·rename_i hlt;rw[List.getElem?_eq_none (by omega)]
  ·rfl
 rw[e]
theorem Rb(g:Gt)(k:Nat)(w:Vn)(x:Ex)(hk:k<g.ak.length)(hl:g.ak.length≤1000000):ae E 177 [aL g,i64 (k:Int),.agg [aR w.book.af,bZ w.book.ai,.sl none 1 (w.book.ids.map str++[str x.id]),i64 w.book.clock,i64 2,aR w.ar,i64 w.last,bl w.br]] (fun r t=>r=aL (cf g k (iM w x))∧t=[]):=by
 have h:=j9 g k (iM w x) hk hl
 have e:(.agg [aR w.book.af,bZ w.book.ai,.sl none 1 (w.book.ids.map str++[str x.id]),i64 w.book.clock,i64 2,aR w.ar,i64 w.last,bl w.br]:AV)=aN (iM w x):=by simp[iM]
 rw[e]
 exact h
theorem J0(g:Gt)(n:Int)(x:Ex)(hg:bO g)(hlm:dP g.aP)(ha:ba g n=false):ae E 114 [aL g,i64 n,an x] (fun r t=>r= .ax [aL g,i64 0,i64 1]∧t=[]):=by
 have hgi:=hg.fit
 refine ae.av (n:=158) (rs:=[.cell 6 58,.tmp 7,.tmp 8]) Tryz.func114 rfl Tryz.ntmps114 rfl ?_
 repeat'(first
 |refine aa.ab fun K hK=>?_
 |(refine aa.region ?_;simp only[go_sem,ha])
 |(refine aa.here 14 111 12 rfl ?_;refine aa.gD (.take 1 (.take 2 (.take 3 (.take 5 (.take 6 (.fork (.alt 0 (.fork (.alt 4 (.take 7 (.take 8 (.take 9 (.take 10 (.take 11 .done))))) (.alt 7 (.take 4 (.take 8 (.take 9 (.take 10 (.take 11 .done))))) .ends))) (.alt 7 (.take 0 (.take 4 (.take 8 (.take 9 (.take 10 (.take 11 .done)))))) .ends)))))))) [[],[],[1],[1,2],[0,1,2,3],[],[5],[5,6],[0,1,2,3,4,5,6,7],[0,1,2,3,4,5,6,7,8],[0,1,2,3,4,5,6,7,8,9],[0,1,2,3,4,5,6,7,8,9,10]] [] (by kernel_rfl) (by kernel_rfl) ?_;simp only[go_sem,ha])
 |(refine aa.here 21 140 14 rfl ?_;refine aa.gD (.take 1 (.take 2 (.take 3 (.take 4 (.take 6 (.take 7 (.take 8 (.take 9 (.take 10 (.take 0 (.take 5 (.take 11 (.take 12 (.take 13 .done)))))))))))))) [[],[],[1],[],[1,2,3],[0,1,2,3,4],[],[6],[],[8],[6,7,8,9],[0,1,2,3,4,5,6,7,8,9,10],[0,1,2,3,4,5,6,7,8,9,10,11],[0,1,2,3,4,5,6,7,8,9,10,11,12]] [] (by kernel_rfl) (by kernel_rfl) ?_;simp only[go_sem,ha])
 |(refine hK _ ?_;clear hK K)
 |refine aa.block ?_
 |refine aa.cond rfl (fun c=>?_) (fun c=>?_)<;>first|exact Bool.noConfusion c|(try simp only[dD] at c)
 |refine aa.skip ?_
 |(refine aa.exit ?_;simp only[go_sem,ha])
 |(refine ah.one (k9 g n hgi hlm) (by kernel_rfl) rfl ?_;simp only[go_sem,ha])
 |(refine ah.one (tM ) (by kernel_rfl) rfl ?_;simp only[go_sem,ha])
 |(refine ah.one (fK _ _ (by first|assumption|omega|(simp only[List.length_take];omega))) (by kernel_rfl) rfl ?_;simp only[go_sem,ha])
 |(refine ah.one (j9 ) (by kernel_rfl) rfl ?_;simp only[go_sem,ha])
 |(refine aH.bY (fun h=>?_) (fun h=>?_)<;>simp only[h,go_sem,ha]<;>(try simp only[dD] at h))
 |(refine aH.split (fun h=>?_) (fun h=>?_)<;>simp only[h,go_sem,ha]<;>(try simp only[dD] at h))
 |(refine aG.bA (by assumption) ?_;(try simp only[go_sem,ha]))
 |(refine aG.fT (by assumption) ?_;(try simp only[go_sem,ha]))
 |((first|refine aG.nth ?_ (fun b hb=>?_)|refine aG.mN ?_ (fun b hb=>?_)|with_reducible refine And.intro ?_ ?_);(focus(first|omega|assumption|exact List.length_pos_iff.2 (by assumption)|(simp only[List.length_append,List.length_cons,List.length_nil,List.length_map,List.length_take,List.length_drop] at *;omega)|(rw[aq (by omega) (by omega)];omega)|(simp;done)|(simp[cA];done)|(exact⟨by omega,by omega⟩)));(try simp only[hb,go_sem,ha]))
 |exact rfl
 |refine And.intro (a:=ah _ _ _ _ _ _ _ _) ?_ ?_
 |refine And.intro (a:=aG _ _) ?_ ?_
 |refine And.intro (a:=aH _ _ _ _ _ _ _) ?_ ?_
 |(
  refine aa.ret ?_
  refine az.is ?_;simp only[go_sem,aB,aE,aF,aA,aC,aD]<;>(first|exact⟨⟨rfl,rfl,rfl,rfl,rfl⟩,rfl,rfl⟩|(simp;done)|skip))
 |(exfalso;simp_all;done)
 |refine aa.fin (by assumption) ?_)
theorem EI(g:Gt)(k:Nat)(w:Vn)(x:Ex)(hg:bO g)(hlm:dP g.aP)(hx0:g.ak[k]?=some w)(ha:ba g (k:Int)=true)(hxo:hP x)(nb:Bk)(hcf:aY w.book x=(nb,0)):ae E 114 [aL g,i64 (k:Int),an x] (fun r t=>r= .ax [aL (cj g (k:Int) x).1,i64 (cj g (k:Int) x).2.1,i64 (cj g (k:Int) x).2.2]∧t=[]):=by
 have hgi:=hg.fit
 have hg1:=hg.1
 have hn:=bI hx0
 have hv:=hgi.2.2 w (List.mem_of_getElem? hx0)
 have hrv:=iB (ju ha hx0)
 have hidl:=(hg.2.2 w (List.mem_of_getElem? hx0)).2.2.1
 refine ae.av (n:=158) (rs:=[.cell 6 58,.tmp 7,.tmp 8]) Tryz.func114 rfl Tryz.ntmps114 rfl ?_
 repeat'(first
 |refine aa.ab fun K hK=>?_
 |(refine aa.region ?_;simp only[go_sem,ha])
 |(refine aa.here 14 111 12 rfl ?_;refine aa.gD (.take 1 (.take 2 (.take 3 (.take 5 (.take 6 (.fork (.alt 0 (.fork (.alt 4 (.take 7 (.take 8 (.take 9 (.take 10 (.take 11 .done))))) (.alt 7 (.take 4 (.take 8 (.take 9 (.take 10 (.take 11 .done))))) .ends))) (.alt 7 (.take 0 (.take 4 (.take 8 (.take 9 (.take 10 (.take 11 .done)))))) .ends)))))))) [[],[],[1],[1,2],[0,1,2,3],[],[5],[5,6],[0,1,2,3,4,5,6,7],[0,1,2,3,4,5,6,7,8],[0,1,2,3,4,5,6,7,8,9],[0,1,2,3,4,5,6,7,8,9,10]] [] (by kernel_rfl) (by kernel_rfl) ?_;simp only[go_sem,ha])
 |(refine aa.here 21 140 14 rfl ?_;refine aa.gD (.take 1 (.take 2 (.take 3 (.take 4 (.take 6 (.take 7 (.take 8 (.take 9 (.take 10 (.take 0 (.take 5 (.take 11 (.take 12 (.take 13 .done)))))))))))))) [[],[],[1],[],[1,2,3],[0,1,2,3,4],[],[6],[],[8],[6,7,8,9],[0,1,2,3,4,5,6,7,8,9,10],[0,1,2,3,4,5,6,7,8,9,10,11],[0,1,2,3,4,5,6,7,8,9,10,11,12]] [] (by kernel_rfl) (by kernel_rfl) ?_;simp only[go_sem,ha])
 |(refine hK _ ?_;clear hK K)
 |refine aa.block ?_
 |refine aa.cond rfl (fun c=>?_) (fun c=>?_)<;>first|exact Bool.noConfusion c|(try simp only[dD] at c)
 |refine aa.skip ?_
 |(refine aa.exit ?_;simp only[go_sem,ha])
 |(refine ah.one (k9 g (k:Int) hgi hlm) (by kernel_rfl) rfl ?_;simp only[go_sem,ha])
 |(refine ah.one (tM w.book x hxo hv.1 hv.2.1 hv.2.2.1) (by kernel_rfl) rfl ?_;simp only[hcf];simp only[go_sem,ha])
 |(refine ah.one (fK w.ar x.ord hv.2.2.2) (by kernel_rfl) rfl ?_;simp only[go_sem,ha])
 |(refine ah.one (j9 ) (by kernel_rfl) rfl ?_;simp only[go_sem,ha])
 |(refine aH.bY (fun h=>?_) (fun h=>?_)<;>simp only[h,go_sem,ha]<;>(try simp only[dD] at h))
 |(refine aH.split (fun h=>?_) (fun h=>?_)<;>simp only[h,go_sem,ha]<;>(try simp only[dD] at h))
 |(refine aG.bA (by assumption) ?_;(try simp only[go_sem,ha]))
 |(refine aG.fT (by assumption) ?_;(try simp only[go_sem,ha]))
 |((first|refine aG.nth ?_ (fun b hb=>?_)|refine aG.mN ?_ (fun b hb=>?_)|with_reducible refine And.intro ?_ ?_);(focus(first|omega|assumption|exact List.length_pos_iff.2 (by assumption)|(simp only[List.length_append,List.length_cons,List.length_nil,List.length_map,List.length_take,List.length_drop] at *;omega)|(rw[aq (by omega) (by omega)];omega)|(simp;done)|(simp[cA];done)|(exact⟨by omega,by omega⟩)));(try simp only[hb,go_sem,ha]))
 |exact rfl
 |refine And.intro (a:=ah _ _ _ _ _ _ _ _) ?_ ?_
 |refine And.intro (a:=aG _ _) ?_ ?_
 |refine And.intro (a:=aH _ _ _ _ _ _ _) ?_ ?_
 |(
  refine aa.ret ?_
  refine az.is ?_;simp only[go_sem,aB,aE,aF,aA,aC,aD]<;>(first|(rw[zb ha hx0 hcf (by omega)];first|done|exact⟨⟨rfl,rfl,rfl,rfl,rfl⟩,rfl,rfl⟩|(simp;done))|skip))
 |refine aa.fin (by assumption) ?_)
end Go.Proofs.YtajeeghgiilhiaaGreat
end
section
namespace Go.Bk
open Go Go.Abs
def lF(x:Ex)(o:Od):Bool:=decide (o.acc=x.acc)&&decide (o.sym=x.sym)&&decide (o.au=x.au)&&decide (o.al=x.al)&&decide (o.aw=x.aw)&&(decide (¬x.kind=1)||decide (o.done=0))
def fA(l:List Od)(x:Ex):Int:=match bS l x.ord with
 |some m=>(match l[m]? with
  |some o=>if lF x o then(m:Int) else -1
  |none=>-1)
 |none=>-1
section
variable{l:List Od}{x:Ex}{m:Nat}{o:Od}
theorem FP(h:bN l x.ord<0):bN l x.ord=fA l x:=by
 unfold fA bN at *
 cases hp:bS l x.ord with
 |none=>rfl
 |some n=>rw[hp] at h;simp only at h;omega
theorem Fg(hp:bS l x.ord=some m)(ho:l[m]?=some o)(h:lF x o=false):(-1:Int)=fA l x:=by
 unfold fA;rw[hp];simp only[ho,h];rfl
theorem CF(hp:bS l x.ord=some m)(ho:l[m]?=some o)(h:lF x o=true):(m:Int)=fA l x:=by
 unfold fA;rw[hp];simp only[ho,h];rfl
theorem X0(hid:o.id=x.ord)(hk:x.kind=1∨x.kind=4):gL x o=lF x o:=by
 unfold gL lF
 rw[decide_eq_true hid,Bool.true_and]
 rcases hk with hk|hk<;>simp[hk]
theorem w6(hr:aU l=true)(hk:x.kind=1∨x.kind=4):eB l x=if fA l x<0 then none else some (fA l x).toNat:=by
 unfold fA
 cases hp:bS l x.ord with
 |none=>
  simp only[]
  rw[if_pos (by omega)]
  unfold eB
  rw[List.findIdx?_eq_none_iff]
  intro o ho
  have h2:(bS l x.ord).isNone=true:=by rw[hp];rfl
  rw[nx,decide_eq_true_eq] at h2
  have h3:¬o.id=x.ord:=fun e=>h2 (List.mem_map.2 ⟨o,ho,e⟩)
  unfold gL;rw[decide_eq_false h3];simp
 |some m=>
  obtain⟨o,h1,h2,h3⟩:=mJ hp
  simp only[h1]
  have hf:=X0 (o:=o) h2 hk
  cases ht:lF x o with
  |true=>
   rw[if_pos rfl,if_neg (by omega),Int.toNat_natCast]
   unfold eB
   obtain⟨hm,he⟩:=List.getElem?_eq_some_iff.1 h1
   refine List.findIdx?_eq_some_iff_getElem.2 ⟨hm,by rw[he,hf,ht],fun j hj=>?_⟩
   have:=h3 j l[j] hj (List.getElem?_eq_getElem (by omega))
   unfold gL;rw[decide_eq_false this];simp
  |false=>
   simp only[Bool.false_eq_true,if_false]
   rw[if_pos (by decide)]
   unfold eB
   rw[List.findIdx?_eq_none_iff]
   intro p hpm
   by_cases hid:p.id=x.ord
   ·
    obtain⟨j,hj⟩:=List.mem_iff_getElem?.1 hpm
    have hnd:=(jw.1 hr).2.2
    have e1:(l.map (·.id))[j]?=some x.ord:=by rw[List.getElem?_map,hj];simp[hid]
    have e2:(l.map (·.id))[m]?=some x.ord:=by rw[List.getElem?_map,h1];simp[h2]
    have:j=m:=(List.getElem?_inj (bI e1) hnd).1 (e1.trans e2.symm)
    subst this
    rw[h1] at hj;cases hj
    rw[hf,ht]
   ·unfold gL;rw[decide_eq_false hid];simp
theorem DD(hr:aU l=true)(hk:x.kind=1∨x.kind=4)(h:fA l x<0):eB l x=none:=by rw[w6 hr hk,if_pos h]
theorem z6(hr:aU l=true)(hk:x.kind=1∨x.kind=4){p:Nat}(h:(p:Int)=fA l x):eB l x=some p:=by rw[w6 hr hk,←h,if_neg (by omega),Int.toNat_natCast]
theorem Jk{p:Nat}(h:(p:Int)=fA l x):p<l.length:=by
 unfold fA at h
 cases hp:bS l x.ord with
 |none=>rw[hp] at h;simp only at h;omega
 |some m=>
  obtain⟨o,h1,h2,h3⟩:=mJ hp
  rw[hp] at h;simp only[h1] at h
  split at h
  ·have:p=m:=by omega
   subst this;exact bI h1
  ·omega
end
theorem Dq{b nb:Bk}{x:Ex}{kk:Int}(hr:aQ b=true)(h:aY b x=(nb,kk))(hk:kk=2∨kk=4):nb=b:=by
 unfold aY at h
 split at h
 ·unfold bM at h
  split at h
  ·cases h;rfl
  split at h
  ·cases h;rfl
  ·simp only at h
   split at h
   ·cases h;omega
   ·cases h;omega
 ·cases h;rfl
theorem Js{b:Bk}{x:Ex}:0≤(aY b x).2∧(aY b x).2≤4:=by
 unfold aY
 split
 ·unfold bM
  split
  ·simp
  split
  ·simp
  ·simp only
   split<;>simp
 ·simp
end Go.Bk
end
section
namespace Go.Proofs.YtajeeghgiilhiaaGreat
open Go Go.Abs Go.RowKit Go.Bk
theorem HI(g:Gt)(k:Nat)(w:Vn)(nb:Bk)(p:Nat)(hk:k<g.ak.length)(hl:g.ak.length≤1000000):ae E 177 [aL g,i64 (k:Int),.agg [aR nb.af,bZ nb.ai,.sl none 1 (nb.ids.map str),i64 nb.clock,i64 nb.bad,.sl none 8 ((w.ar.take p++w.ar.drop (p+1)).map aW),i64 g.now,bl w.br]] (fun r t=>r=aL (cf g k ⟨nb,w.ar.eraseIdx p,g.now,w.br⟩)∧t=[]):=by
 have h:=j9 g k ⟨nb,w.ar.eraseIdx p,g.now,w.br⟩ hk hl
 rw[←List.eraseIdx_eq_take_drop_succ]
 exact h
section
variable{g:Gt}{k:Nat}{x:Ex}{w:Vn}{nb:Bk}{kk:Int}
theorem y9(ha:ba g (k:Int)=true)(hx0:g.ak[k]?=some w)(hcf:aY w.book x=(nb,kk))(hk:kk=2∨kk=4)(hnb:nb=w.book):cj g (k:Int) x=(cf g k ⟨nb,w.ar,w.last,w.br⟩,kk,0):=by
 subst hnb
 rw[yH ha hx0 hcf hk]
 show(g,kk,0)=(cf g k w,kk,0)
 rw[QL hx0]
theorem V7{a:Int}(ha:ba g (k:Int)=true)(hx0:g.ak[k]?=some w)(hcf:aY w.book x=(nb,kk))(hr:aU w.ar=true)(hat:a=fA w.ar x)(hk:kk=3)(h:¬(x.kind=1∨x.kind=4)∨¬a<0):cj g (k:Int) x=(cf g k ⟨nb,w.ar,w.last,w.br⟩,kk,0):=by
 subst hk
 exact xu (p:=a.toNat) ha hx0 hcf fun hop=>z6 hr hop (by rw[←hat];omega)
theorem WC{a:Int}(ha:ba g (k:Int)=true)(hx0:g.ak[k]?=some w)(hcf:aY w.book x=(nb,kk))(hr:aU w.ar=true)(hat:a=fA w.ar x)(hk4:1≤kk∧kk≤4)(hk:¬kk=1)(hnb:kk=2∨kk=4→nb=w.book)(h:¬(x.kind=1∨x.kind=4)∨¬a<0):cj g (k:Int) x=(cf g k ⟨nb,w.ar,w.last,w.br⟩,kk,0):=by
 by_cases h3:kk=3
 ·exact V7 ha hx0 hcf hr hat h3 h
 ·exact y9 ha hx0 hcf (by omega) (hnb (by omega))
theorem Un(ha:ba g (k:Int)=true)(hx0:g.ak[k]?=some w)(hcf:aY w.book x=(nb,kk))(hk:kk=1)(ho:¬(x.kind=1∨x.kind=4)):cj g (k:Int) x=(cf g k ⟨nb,w.ar,g.now,w.br⟩,kk,0):=by
 subst hk
 exact Bz ha hx0 hcf ho
theorem TV{a:Int}(ha:ba g (k:Int)=true)(hx0:g.ak[k]?=some w)(hcf:aY w.book x=(nb,kk))(hr:aU w.ar=true)(hat:a=fA w.ar x)(hk:kk=1∨kk=3)(ho:x.kind=1∨x.kind=4)(h:a<0):cj g (k:Int) x=(cf g k (iM w x),3,0):=
 wK ha hx0 hcf hk ho (DD hr ho (by omega))
theorem Of{p:Nat}(ha:ba g (k:Int)=true)(hx0:g.ak[k]?=some w)(hcf:aY w.book x=(nb,kk))(hr:aU w.ar=true)(hat:(p:Int)=fA w.ar x)(hk:kk=1)(ho:x.kind=1∨x.kind=4):cj g (k:Int) x=(cf g k ⟨nb,w.ar.eraseIdx p,g.now,w.br⟩,kk,0):=by
 subst hk
 exact vJ ha hx0 hcf ho (z6 hr ho hat)
end
theorem NT(g:Gt)(k:Nat)(w:Vn)(x:Ex)(hg:bO g)(hlm:dP g.aP)(hx0:g.ak[k]?=some w)(ha:ba g (k:Int)=true)(hxo:hP x)(nb:Bk)(kk:Int)(hk0:¬kk=0)(hk4:1≤kk∧kk≤4)(hcf:aY w.book x=(nb,kk))(hnb:kk=2∨kk=4→nb=w.book):ae E 114 [aL g,i64 (k:Int),an x] (fun r t=>r= .ax [aL (cj g (k:Int) x).1,i64 (cj g (k:Int) x).2.1,i64 (cj g (k:Int) x).2.2]∧t=[]):=by
 have hgi:=hg.fit
 have hg1:=hg.1
 have hn:=bI hx0
 have hv:=hgi.2.2 w (List.mem_of_getElem? hx0)
 have hrv:=iB (ju ha hx0)
 have hidl:=(hg.2.2 w (List.mem_of_getElem? hx0)).2.2.1
 refine ae.av (n:=158) (rs:=[.cell 6 58,.tmp 7,.tmp 8]) Tryz.func114 rfl Tryz.ntmps114 rfl ?_
 repeat'(first
 |(
  refine aa.jJ hc9 ?_
  first|(refine aa.weaken ?_ (hc9 ⟨_,FP (by omega)⟩);clear hc9;(try simp only[go_sem]);(repeat'(first|refine And.intro ?_ ?_|trivial|exact .inr (aM rfl)));done)|(refine aa.weaken ?_ (hc9 ⟨_,CF hpf hoo (by(try clear hc9);(try clear hK);simp[lF, *])⟩);clear hc9;(try simp only[go_sem]);(repeat'(first|refine And.intro ?_ ?_|trivial|exact .inr (aM rfl)));done)|(refine aa.weaken ?_ (hc9 ⟨_,Fg hpf hoo (by(try clear hc9);(try clear hK);simp[lF, *])⟩);clear hc9;(try simp only[go_sem]);(repeat'(first|refine And.intro ?_ ?_|trivial|exact .inr (aM rfl)));done))
 |refine aa.ab fun K hK=>?_
 |(
  refine aa.here 9 42 7 rfl ?_
  first
  |(have h0:=hc9;clear h0;refine aa.cond rfl (fun c=>?_) (fun c=>?_)<;>(try simp only[dD] at c))
  |((fail_if_success(have h0:=hc9));refine aa.cutAt (ι:={a:Int // a=fA w.ar x}) [13,39,40,41,42,43,44,45,46,47,48,49,50,51,52,53,54,55,56,57,58,59,60,61,62,63,64,65,66,67,68,69,70,71,72,73,74,75,76,77,78,79,80,81,82,83,84,85,86,87,88,89] (fun⟨a,hat⟩=>[(12,i64 a)]) (fun⟨a,hat⟩=>[some [aL g],some [an x],some [.agg [.aK,.aK,bl false,i64 0,i64 0]],some [aN w],some [dn nb]]) (fun⟨a,hat⟩=>[]) hK (fun ii=>?_) (fun hc9=>?_)))
 |(refine Cut.mk ?_;obtain⟨a,hat⟩:=ii;simp only[go_sem])
 |(
  refine aa.here 21 140 14 rfl ?_
  obtain⟨p,rfl⟩:∃p:Nat,a=(p:Int):=⟨a.toNat,by omega⟩
  have hpl:=Jk hat
  have hwp:IntKind.i64.wrap ((p:Int)+1)=((p+1:Nat):Int):=by rw[aq (by omega) (by omega)];omega
  refine aa.gD (.take 1 (.take 2 (.take 3 (.take 4 (.take 6 (.take 7 (.take 8 (.take 9 (.take 10 (.take 0 (.take 5 (.take 11 (.take 12 (.take 13 .done)))))))))))))) [[],[],[1],[],[1,2,3],[0,1,2,3,4],[],[6],[],[8],[6,7,8,9],[0,1,2,3,4,5,6,7,8,9,10],[0,1,2,3,4,5,6,7,8,9,10,11],[0,1,2,3,4,5,6,7,8,9,10,11,12]] [] (by kernel_rfl) (by kernel_rfl) ?_;simp only[go_sem,ha,hwp,Int.toNat_natCast,List.length_take,List.length_drop])
 |(refine aa.region ?_;simp only[go_sem,ha])
 |(refine aa.here 14 111 12 rfl ?_;refine aa.gD (.take 1 (.take 2 (.take 3 (.take 5 (.take 6 (.fork (.alt 0 (.fork (.alt 4 (.take 7 (.take 8 (.take 9 (.take 10 (.take 11 .done))))) (.alt 7 (.take 4 (.take 8 (.take 9 (.take 10 (.take 11 .done))))) .ends))) (.alt 7 (.take 0 (.take 4 (.take 8 (.take 9 (.take 10 (.take 11 .done)))))) .ends)))))))) [[],[],[1],[1,2],[0,1,2,3],[],[5],[5,6],[0,1,2,3,4,5,6,7],[0,1,2,3,4,5,6,7,8],[0,1,2,3,4,5,6,7,8,9],[0,1,2,3,4,5,6,7,8,9,10]] [] (by kernel_rfl) (by kernel_rfl) ?_;simp only[go_sem,ha])
 |(refine hK _ ?_;clear hK K)
 |refine aa.cond rfl (fun c=>?_) (fun c=>?_)<;>first|exact Bool.noConfusion c|(try simp only[dD] at c)
 |refine aa.skip ?_
 |(refine ah.one (k9 g (k:Int) hgi hlm) (by kernel_rfl) rfl ?_;simp only[go_sem,ha])
 |(refine ah.one (tM w.book x hxo hv.1 hv.2.1 hv.2.2.1) (by kernel_rfl) rfl ?_;simp only[hcf];simp only[go_sem,ha])
 |(refine ah.one (fK w.ar x.ord hv.2.2.2) (by kernel_rfl) rfl ?_;simp only[go_sem,ha])
 |(refine ah.one (Rb g k w x hn hg1) (by kernel_rfl) rfl ?_;simp only[go_sem,ha])
 |(refine ah.one (j9 g k ⟨nb,w.ar,g.now,w.br⟩ hn hg1) (by kernel_rfl) rfl ?_;simp only[go_sem,ha])
 |(refine ah.one (j9 g k ⟨nb,w.ar,w.last,w.br⟩ hn hg1) (by kernel_rfl) rfl ?_;simp only[go_sem,ha])
 |(refine ah.one (HI g k w nb p hn hg1) (by kernel_rfl) rfl ?_;simp only[go_sem,ha])
 |(refine aH.bY (fun h=>?_) (fun h=>?_)<;>simp only[h,go_sem,ha]<;>(try simp only[dD] at h))
 |(refine aH.split (fun h=>?_) (fun h=>?_)<;>simp only[h,go_sem,ha]<;>(try simp only[dD] at h))
 |(refine aG.bA (by assumption) ?_;(try simp only[go_sem,ha]))
 |((first|refine aG.nth ?_ (fun b hb=>?_)|with_reducible refine And.intro ?_ ?_);(focus(omega));(try simp only[hb,go_sem,ha]))
 |(
  refine aa.ret ?_
  refine az.is ?_;simp only[go_sem,aB,aE,aF,aA,aC,aD]<;>(first|(rw[WC ha hx0 hcf hrv.2.1 hat hk4 (by omega) hnb (by omega)];(exact⟨⟨rfl,rfl,rfl,rfl,rfl⟩,rfl,rfl⟩))|(rw[y9 ha hx0 hcf (by omega) (hnb (by omega))];(exact⟨⟨rfl,rfl,rfl,rfl,rfl⟩,rfl,rfl⟩))|(rw[Un ha hx0 hcf (by omega) (by omega)];(exact⟨⟨rfl,rfl,rfl,rfl,rfl⟩,rfl,rfl⟩))|(rw[TV ha hx0 hcf hrv.2.1 hat (by omega) (by omega) (by omega)];(exact⟨⟨rfl,rfl,rfl,rfl,rfl⟩,rfl,rfl⟩))|(rw[Of ha hx0 hcf hrv.2.1 hat (by omega) (by omega)];(exact⟨⟨rfl,rfl,rfl,rfl,rfl⟩,rfl,rfl⟩))|skip))
 |((fail_if_success(have h0:=hoo));obtain⟨m,o,hp,hpf,hoo,hn2⟩:=lk (l:=w.ar) (id:=x.ord) (by omega);simp only[hp,hoo,go_sem,Int.toNat_natCast])
 |(exfalso;omega)
 |(refine And.intro ?_ ?_))
end Go.Proofs.YtajeeghgiilhiaaGreat
end
