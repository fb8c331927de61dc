/- Texts of one chain, put together (G12, G13, Lw, G14, G15, G16, G17, G18, Lx, G34). -/
import Derived.Test.YthoonfpkfdjhiaaGreatDoorKbP
import Derived.Test.YthoonfpkfdjhiaaGreatDoorKbI
import Derived.Test.YthoonfpkfdjhiaaGreatDoorKbN
import Derived.Test.YthoonfpkfdjhiaaGreatDoorKbJ
import Derived.Test.YthoonfpkfdjhiaaGreatDoorKbA
set_option linter.unusedVariables false
set_option linter.unusedSimpArgs false
set_option maxHeartbeats 16000000
set_option maxRecDepth 8000
section
namespace Go.Proofs.YthoonfpkfdjhiaaGreatDoor
open Go Go.az Go.RowKit Go.Bk
theorem Cb(l:List Od)(m:Nat):(l.map bf++spare 8 m).length=l.length+m:=by simp[da]
theorem erase_eq{l:List Od}{p:Nat}(hp:p<l.length):l.eraseIdx p=l.take p++l.drop (p+1):=List.eraseIdx_eq_take_drop_succ ..
theorem yI{l:List Od}{p:Nat}(hp:p<l.length)(m:Nat):(l.map bf++spare 8 m).take p++(((l.map bf++spare 8 m).drop (p+1)).take (l.length-(p+1))++(l.map bf++spare 8 m).drop (p+(l.length-(p+1))))=(l.eraseIdx p).map bf++(l.map bf++spare 8 m).drop (l.length-1):=by
 rw[show p+(l.length-(p+1))=l.length-1 by omega,←List.append_assoc]
 congr 1
 rw[List.take_append_of_le_length (by simp;omega),List.drop_append_of_le_length (by simp;omega),List.take_left' aB,erase_eq hp,List.map_append,List.map_take,List.map_drop]
theorem LR{l:List Od}{p:Nat}(hp:p<l.length)(m:Nat)(h:l.length-(p+1)=0):(l.map bf++spare 8 m).take p++(((l.map bf++spare 8 m).drop 0).take (l.length-(p+1))++(l.map bf++spare 8 m).drop (p+(l.length-(p+1))))=(l.eraseIdx p).map bf++(l.map bf++spare 8 m).drop (l.length-1):=by
 rw[←yI hp m,h];simp
theorem LP{l:List Od}{p:Nat}(hp:p<l.length)(m:Nat):∀e∈((l.map bf++spare 8 m).drop (p+1)).take (l.length-(p+1)),∀x∈e.leaves,x≠.any:=by
 intro e he x hx
 rw[List.drop_append_of_le_length (by simp;omega),List.take_left' aB] at he
 obtain⟨o,_,rfl⟩:=List.mem_map.1 (List.mem_of_mem_drop he)
 simp only[AV.leaves,List.mem_cons,List.not_mem_nil,or_false] at hx
 rcases hx with rfl|rfl|rfl|rfl|rfl|rfl|rfl|rfl<;>simp
theorem LS{l:List Od}{p:Nat}(hp:p<l.length)(m:Nat):spare 8 ((l.map bf++spare 8 m).drop (l.length-1)).length=spare 8 (m+1):=by
 congr 1;rw[List.length_drop,Cb];omega
theorem KP{l:List Od}{p id cap:Nat}(hp:p<l.length){x:AV}(h:x= .mu id 8 (l.length-1) (l.length-(l.length-1)) cap):x= .mu id 8 ((l.eraseIdx p).map bf).length (0+1) cap:=by
 rw[h];congr 1
 ·rw[List.length_map,List.length_eraseIdx_of_lt hp]
 ·omega
set_option maxRecDepth 100000 in
theorem LQ{ops:Array Oper}{l0:List Oper}{Q:Exit→St→Prop}{tmps up:List AV}{gl:Nat→Option (List AV)}{own:List (Option (List AV))}{tk:List Nat}{dst:Option Tmp}{x0 x1 x2:Operand}{tys:Array TypeId}{ty:TypeId}{pos:String}{after:Array Edge}{id p m:Nat}{l:List Od}
 (hx0:St.ev ⟨tmps,own,tk,gl,none,up⟩ x0= .mu id 8 0 l.length (l.length+m)) (hx1:St.ev ⟨tmps,own,tk,gl,none,up⟩ x1=i64 (p:Int)) (hx2:St.ev ⟨tmps,own,tk,gl,none,up⟩ x2=i64 ((p+1:Nat):Int)) (ho:own[id]?=some (some (l.map bf++spare 8 m))) (hp:p<l.length) (hl:l.length≤1000000)
 (h:al E ops l0 Q (St.put ⟨tmps,own.set id (some ((l.eraseIdx p).map bf++spare 8 (m+1))),tk,gl,none,up⟩ dst (.mu id 8 0 (l.length-1) (l.length+m)))):
 al E ops (⟨dst,.call ⟨.value (.func 135),#[x0,x1,x2],tys⟩,ty,pos,after,none⟩::l0) Q ⟨tmps,own,tk,gl,none,up⟩:=by
 refine al.call (caps:=[]) (rs:=[.tmp 6]) Tryz.func135 rfl Tryz.ntmps135 rfl ae rfl rfl ?_
 show aa E _ _ ⟨([St.ev _ x0,St.ev _ x1,St.ev _ x2]++[])++List.replicate (33-3) (.v undef),own,tk,gl,none,tmps++up⟩
 rw[hx0,hx1,hx2]
 have hB0:∀(tm:List AV),tm[6]?=some (.mu id 8 0 (l.length-1) (l.length+m))→bW E.P [.tmp 6] ⟨tmps,own,tk,gl,none,up⟩ (fun s z=>al E ops l0 Q (s.put dst z)) .ret ⟨tm,own.set id (some ((l.eraseIdx p).map bf++spare 8 (m+1))),tk,gl,none,tmps++up⟩:=by
  intro tm hu
  refine⟨rfl,?_⟩
  have gu:∀ow,St.ev ⟨tm,ow,tk,gl,none,tmps++up⟩ (.tmp 6)= .mu id 8 0 (l.length-1) (l.length+m):=fun ow=>by simp[St.ev,List.getD_eq_getElem?_getD,hu]
  show al E ops l0 Q (St.put _ dst (fB [St.ev _ (.tmp 6)]))
  rw[gu]
  exact h
 generalize bW E.P [.tmp 6] ⟨tmps,own,tk,gl,none,up⟩ (fun s z=>al E ops l0 Q (s.put dst z))=Q' at hB0 ⊢
 generalize tmps++up=up' at hB0 ⊢
 clear h hx0 hx1 hx2
 have hset:∀x,(own.set id x)[id]?=some x:=fun x=>List.getElem?_set_self (bO ho)
 have hrl:=Cb l m
 have hnp:decide ((p:Int)=((p+1:Nat):Int))=false:=decide_eq_false ab
 have hE:=yI hp m
 repeat'(first
 |refine aa.ah fun K hK=>?_
 |(
  refine aa.here 1 8 6 rfl ?_
  refine aa.aW ?_
  refine al.at 6 5 rfl ?_
  simp only[go_sem,hnp,hset]
  (repeat(refine⟨⟨_,rfl⟩,?_⟩))
  refine al.XX (e:=23) (l':=p) (h':=p+1) (m':=l.length) (k:=8) ae ae jo jo jo jo ab ab ab ?_
  refine al.of ?_
  (try simp only[go_sem,hnp,hset]))
 |(
  refine aa.here 5 20 8 rfl ?_
  rcases Nat.lt_or_ge (p+1) (l.length+m) with hlt|hlt
  refine aa.na [[],[],[0,1],[],[],[3,4],[0,1,2,3,4,5],[0,1,2,3,4,5,6]] [.mu id 8 0 l.length (l.length+m),i64 (p:Int),.mu id 8 0 p (l.length+m),.mu id 8 0 l.length (l.length+m),i64 ((p+1:Nat):Int),.mu id 8 (p+1) (l.length-(p+1)) (l.length+m-(p+1)),.mu id 8 0 (l.length-1) (l.length+m),.mu id 8 0 (l.length-1) (l.length+m)] [6] (fun k=>[own,own.set id (some ((l.eraseIdx p).map bf++((l.map bf++spare 8 m).drop (l.length-1))))].getD k []) ae ae rfl rfl rfl ?_ ?_ ?_
  ·intro i o ho hi s hg how htk hrs hr
   rcases i with _|i
   ·simp only[List.getElem?_toArray,List.getElem?_cons_zero,List.getElem?_cons_succ,Option.some.injEq] at ho;subst ho
    have e0:=(hr 0 aj).trans (rfl:_=(.mu id 8 0 l.length (l.length+m):AV))
    refine bc.list ?_
    simp only[go_sem,e0]
    (done)
   rcases i with _|i
   ·simp only[List.getElem?_toArray,List.getElem?_cons_zero,List.getElem?_cons_succ,Option.some.injEq] at ho;subst ho
    have e1:=(hr 1 aj).trans (rfl:_=(i64 (p:Int):AV))
    refine bc.list ?_
    simp only[go_sem,e1]
    (done)
   rcases i with _|i
   ·simp only[List.getElem?_toArray,List.getElem?_cons_zero,List.getElem?_cons_succ,Option.some.injEq] at ho;subst ho
    have e20:=(hr 20 aj).trans (rfl:_=(.mu id 8 0 l.length (l.length+m):AV))
    have e21:=(hr 21 aj).trans (rfl:_=(i64 (p:Int):AV))
    refine bc.list ?_
    simp only[go_sem,e20,e21]
    omega
   rcases i with _|i
   ·simp only[List.getElem?_toArray,List.getElem?_cons_zero,List.getElem?_cons_succ,Option.some.injEq] at ho;subst ho
    have e0:=(hr 0 aj).trans (rfl:_=(.mu id 8 0 l.length (l.length+m):AV))
    refine bc.list ?_
    simp only[go_sem,e0]
    (done)
   rcases i with _|i
   ·simp only[List.getElem?_toArray,List.getElem?_cons_zero,List.getElem?_cons_succ,Option.some.injEq] at ho;subst ho
    have e2:=(hr 2 aj).trans (rfl:_=(i64 ((p+1:Nat):Int):AV))
    refine bc.list ?_
    simp only[go_sem,e2]
    (done)
   rcases i with _|i
   ·simp only[List.getElem?_toArray,List.getElem?_cons_zero,List.getElem?_cons_succ,Option.some.injEq] at ho;subst ho
    have e23:=(hr 23 aj).trans (rfl:_=(.mu id 8 0 l.length (l.length+m):AV))
    have e24:=(hr 24 aj).trans (rfl:_=(i64 ((p+1:Nat):Int):AV))
    refine bc.call fun Q hQ=>?_
    refine al.ke (e:=23) (l:=p+1) (k:=8) (off:=0) (len:=l.length) (cap:=l.length+m) ae ae e23 e24 ab hlt ab ?_
    rw[Nat.zero_add]
    exact hQ
   rcases i with _|i
   ·exact absurd aj hi
   rcases i with _|i
   ·simp only[List.getElem?_toArray,List.getElem?_cons_zero,List.getElem?_cons_succ,Option.some.injEq] at ho;subst ho
    have e26:=(hr 26 aj).trans (rfl:_=(.mu id 8 0 (l.length-1) (l.length+m):AV))
    refine bc.list ?_
    simp only[go_sem,e26]
    (done)
   ·exact absurd ho aB
  ·intro k i o hk ho s hg how htk hrs hup hpp hr
   rcases k with _|k
   ·obtain rfl:=Option.some.inj hk
    simp only[List.getElem?_toArray,List.getElem?_cons_zero,List.getElem?_cons_succ,Option.some.injEq] at ho;subst ho
    have e22:=(hr 22 aj).trans (rfl:_=(.mu id 8 0 p (l.length+m):AV))
    have e25:=(hr 25 aj).trans (rfl:_=(.mu id 8 (p+1) (l.length-(p+1)) (l.length+m-(p+1)):AV))
    clear hr
    obtain⟨tm,ow0,tk0,gl0,rsv0,up0⟩:=s
    simp only[] at hg how htk hrs hup hpp;subst hg;subst how;subst htk;subst hrs;subst hup
    refine bc.call fun Q hQ=>?_
    have hE2:=hE
    refine al.xI (es:=(l.map bf++spare 8 m)) (i:=p) (o:=(p+1)) (j:=l.length-(p+1)) wZ sa (by rw[hrl];exact e22) (by exact e25) ho (by rw[hrl];omega) (by rw[hrl];omega) (by rw[hrl];omega) (LP hp m) ?_
    rw[hE2,show p+(l.length-(p+1))=l.length-1 by omega]
    (try rw[hrl])
    exact hQ
   ·exact absurd hk aB
  simp only[go_sem,Go.az.gj,Go.az.dstsOf,List.map_cons,List.map_nil]
  rotate_left
  refine aa.na [[],[],[0,1],[],[],[3,4],[0,1,2,3,4,5],[0,1,2,3,4,5,6]] [.mu id 8 0 l.length (l.length+m),i64 (p:Int),.mu id 8 0 p (l.length+m),.mu id 8 0 l.length (l.length+m),i64 ((p+1:Nat):Int),.mu id 8 0 (l.length-(p+1)) 0,.mu id 8 0 (l.length-1) (l.length+m),.mu id 8 0 (l.length-1) (l.length+m)] [6] (fun k=>[own,own.set id (some ((l.eraseIdx p).map bf++((l.map bf++spare 8 m).drop (l.length-1))))].getD k []) ae ae rfl rfl rfl ?_ ?_ ?_
  ·intro i o ho hi s hg how htk hrs hr
   rcases i with _|i
   ·simp only[List.getElem?_toArray,List.getElem?_cons_zero,List.getElem?_cons_succ,Option.some.injEq] at ho;subst ho
    have e0:=(hr 0 aj).trans (rfl:_=(.mu id 8 0 l.length (l.length+m):AV))
    refine bc.list ?_
    simp only[go_sem,e0]
    (done)
   rcases i with _|i
   ·simp only[List.getElem?_toArray,List.getElem?_cons_zero,List.getElem?_cons_succ,Option.some.injEq] at ho;subst ho
    have e1:=(hr 1 aj).trans (rfl:_=(i64 (p:Int):AV))
    refine bc.list ?_
    simp only[go_sem,e1]
    (done)
   rcases i with _|i
   ·simp only[List.getElem?_toArray,List.getElem?_cons_zero,List.getElem?_cons_succ,Option.some.injEq] at ho;subst ho
    have e20:=(hr 20 aj).trans (rfl:_=(.mu id 8 0 l.length (l.length+m):AV))
    have e21:=(hr 21 aj).trans (rfl:_=(i64 (p:Int):AV))
    refine bc.list ?_
    simp only[go_sem,e20,e21]
    omega
   rcases i with _|i
   ·simp only[List.getElem?_toArray,List.getElem?_cons_zero,List.getElem?_cons_succ,Option.some.injEq] at ho;subst ho
    have e0:=(hr 0 aj).trans (rfl:_=(.mu id 8 0 l.length (l.length+m):AV))
    refine bc.list ?_
    simp only[go_sem,e0]
    (done)
   rcases i with _|i
   ·simp only[List.getElem?_toArray,List.getElem?_cons_zero,List.getElem?_cons_succ,Option.some.injEq] at ho;subst ho
    have e2:=(hr 2 aj).trans (rfl:_=(i64 ((p+1:Nat):Int):AV))
    refine bc.list ?_
    simp only[go_sem,e2]
    (done)
   rcases i with _|i
   ·simp only[List.getElem?_toArray,List.getElem?_cons_zero,List.getElem?_cons_succ,Option.some.injEq] at ho;subst ho
    have e23:=(hr 23 aj).trans (rfl:_=(.mu id 8 0 l.length (l.length+m):AV))
    have e24:=(hr 24 aj).trans (rfl:_=(i64 ((p+1:Nat):Int):AV))
    refine bc.call fun Q hQ=>?_
    refine al.CA (e:=23) (k:=8) (off:=0) (cap:=l.length+m) ae ae (by rw[show l.length+m=l.length by omega] at e23;rw[show l.length+m=l.length by omega];exact e23) (by rw[show l.length+m=p+1 by omega];exact e24) ab ?_
    rw[show l.length-(p+1)=0 by omega] at hQ
    exact hQ
   rcases i with _|i
   ·exact absurd aj hi
   rcases i with _|i
   ·simp only[List.getElem?_toArray,List.getElem?_cons_zero,List.getElem?_cons_succ,Option.some.injEq] at ho;subst ho
    have e26:=(hr 26 aj).trans (rfl:_=(.mu id 8 0 (l.length-1) (l.length+m):AV))
    refine bc.list ?_
    simp only[go_sem,e26]
    (done)
   ·exact absurd ho aB
  ·intro k i o hk ho s hg how htk hrs hup hpp hr
   rcases k with _|k
   ·obtain rfl:=Option.some.inj hk
    simp only[List.getElem?_toArray,List.getElem?_cons_zero,List.getElem?_cons_succ,Option.some.injEq] at ho;subst ho
    have e22:=(hr 22 aj).trans (rfl:_=(.mu id 8 0 p (l.length+m):AV))
    have e25:=(hr 25 aj).trans (rfl:_=(.mu id 8 0 (l.length-(p+1)) 0:AV))
    clear hr
    obtain⟨tm,ow0,tk0,gl0,rsv0,up0⟩:=s
    simp only[] at hg how htk hrs hup hpp;subst hg;subst how;subst htk;subst hrs;subst hup
    refine bc.call fun Q hQ=>?_
    have hE2:=hE
    refine al.xI (es:=(l.map bf++spare 8 m)) (i:=p) (o:=0) (j:=l.length-(p+1)) wZ sa (by rw[hrl];exact e22) (by exact e25) ho (by rw[hrl];omega) (by rw[hrl];omega) (by rw[hrl];omega) (by rw[show l.length-(p+1)=0 by omega];intro e he;simp at he) ?_
    rw[LR hp m ab,show p+(l.length-(p+1))=l.length-1 by omega]
    (try rw[hrl])
    exact hQ
   ·exact absurd hk aB
  simp only[go_sem,Go.az.gj,Go.az.dstsOf,List.map_cons,List.map_nil])
 |(
  refine aa.here 6 27 6 rfl ?_
  refine aa.aW ?_
  refine al.at 6 4 rfl ?_
  simp only[go_sem,hnp,hset]
  (repeat(refine⟨⟨_,rfl⟩,?_⟩))
  refine al.Cz (e:=23) (l':=l.length-1) (h':=l.length) (k:=8) (off:=0) ae ae jo jo jo ab ab ab ?_
  simp only[go_sem,hnp,hset]
  refine al.KH (e:=23) (k:=8) (n:=88) (len:=0) (A:=(l.eraseIdx p).map bf) (B:=(l.map bf++spare 8 m).drop (l.length-1)) sa ae (KP hp jo) (hset _) (by rw[List.length_drop,hrl];omega) ?_
  rw[LS hp m]
  refine al.of ?_
  (try simp only[go_sem,hnp,hset]))
 |(refine aa.region ?_;simp only[go_sem,hnp,hset])
 |(refine hK _ ?_;clear hK K)
 |refine aa.cond rfl (fun c=>?_) (fun c=>?_)<;>first|exact Bool.noConfusion c|(try simp only[dD] at c)
 |refine aa.skip ?_
 |((with_reducible refine And.intro ?_ ?_);(focus((simp;done)));(try simp only[hb,go_sem,hnp,hset]))
 |(
  refine aa.ret ?_
  (try simp only[fZ,fU])
  (try rw[List.set_set])
  exact hB0 _ rfl))
theorem KA(x:Ex):∀z∈(ao x).leaves,z.dR=some z:=by
 intro z hz
 simp only[AV.leaves,List.mem_cons,List.not_mem_nil,or_false] at hz
 rcases hz with rfl|rfl|rfl|rfl|rfl|rfl|rfl|rfl|rfl|rfl<;>rfl
theorem XH(o:Od)(x:Ex):ai E 175 [bf o,.bR [str x.id,str x.ref,str x.ord,str x.acc,str x.sym,i64 x.kind,bl x.aD,i64 x.au,i64 x.aE,i64 x.time]] (fun r t=>r=bl (kA x o)∧t=[]):=by
 refine ai.aC (n:=54) (rs:=[.tmp 3]) Tryz.func175 rfl Tryz.ntmps175 rfl ?_
 repeat'(first
 |refine aa.ah fun K hK=>?_
 |(refine aa.region ?_;simp only[go_sem])
 |(refine hK _ ?_;clear hK K)
 |(refine aP.du (fun h=>?_) (fun h=>?_)<;>simp only[h,go_sem]<;>(try simp only[dD] at h))
 |(refine aP.split (fun h=>?_) (fun h=>?_)<;>simp only[h,go_sem]<;>(try simp only[dD] at h))
 |(
  refine aa.ret ?_
  refine aN.is ?_;simp only[go_sem,aI,aH,aG,aK,aJ,aL]<;>(simp[kA, *];done)))
theorem U0(l:List Od)(x:Ex)(hl:l.length≤9223372036854775807):ai E 174 [bz l,.fn 175 [.bR [str x.id,str x.ref,str x.ord,str x.acc,str x.sym,i64 x.kind,bl x.aD,i64 x.au,i64 x.aE,i64 x.time]]] (fun r t=>r=i64 (gz (fun o:Od=>kA x o) l)∧t=[]):=by
 refine ai.aC (n:=19) (rs:=[.tmp 4]) Tryz.func174 rfl Tryz.ntmps174 rfl ?_
 repeat'(first
 |refine aa.ah fun K hK=>?_
 |(refine aa.region ?_;simp only[go_sem])
 |(refine hK _ ?_;clear hK K)
 |refine aa.block ?_
 |refine aa.cond rfl (fun c=>?_) (fun c=>?_)<;>(try simp only[dD] at c)
 |refine aa.skip ?_
 |(refine aa.exit ?_;simp only[go_sem])
 |(refine ak.one (XH _ _) ae rfl ?_;simp only[go_sem])
 |((first|refine aQ.nth ?_ (fun b hb=>?_)|with_reducible refine And.intro ?_ ?_);(focus(first|omega|(simp;done)));(try simp only[hb,go_sem]))
 |(
  refine aa.here 2 9 1 rfl ?_
  refine aa.dU (ι:=Nat) [4,5,9,10,11,12,13,14,15,16,17,18] (fun(i:Nat)=>[(8,i64 i)]) (fun(i:Nat)=>i≤l.length∧(l.take i).all (fun o:Od=>!(kA x o))=true) (fun(i:Nat)=>l.length-i) (0) ?_ ?_ ?_
  ·(try simp only[go_sem]);(repeat'(first|fail));done
  ·exact⟨by omega,by simp⟩
  rintro i ⟨h1,h2⟩
  simp only[go_sem])
 |(
  refine⟨i+1,?_,?_,?_⟩
  ·(try simp only[go_sem]);(try rw[aM ab ab]);(repeat'(exact .inr rfl));done
  ·exact⟨by omega,jQ hb h2 (by simp_all)⟩
  ·(try simp only[]);omega)
 |(
  refine aa.ret ?_
  refine aN.is ?_;simp only[go_sem,aI,aH,aG,aK,aJ,aL]<;>(first|(rw[zO hb (by simp_all) h2];done)|(rw[zN ab h2];done)))
 |refine aa.fin af ?_)
theorem qJ(l:List Od)(x:Ex)(hl:l.length≤9223372036854775807):ai E 134 [bz l,ao x] (fun r t=>r=i64 (gz (fun o:Od=>kA x o) l)∧t=[]):=by
 refine ai.aC (n:=8) (rs:=[.tmp 4]) Tryz.func134 rfl Tryz.ntmps134 rfl ?_
 repeat'(first
 |refine aa.ah fun K hK=>?_
 |(refine aa.region ?_;simp only[go_sem])
 |(refine hK _ ?_;clear hK K)
 |(refine ak.ie (U0 l x hl) ae rfl (.cons (.one (.clean rfl)) (.cons (.fn (.cons (.ptr (e:=ao x) rfl (KA x)) .nil)) .nil)) ?_;simp only[go_sem])
 |(
  refine aa.ret ?_
  refine aN.is ?_;simp only[go_sem,aI,aH,aG,aK,aJ,aL]<;>rfl))
end Go.Proofs.YthoonfpkfdjhiaaGreatDoor
end
section
namespace Go.az
open Go Go.RowKit
theorem aa.VV{E:Env}{c:Code}{Q:Exit→St→Prop}{s:St}(id idx j:Nat){jd k n cap:Nat}{rs cs:List AV}(es:List AV)(hne:jd≠id)(ho:s.own[id]?=some (some rs))(he:rs[idx]?=some (.agg cs))(hx:cs[j]?=some (.mu jd k 0 n cap))(ho2:s.own[jd]?=some (some es))(hn:n≤es.length)(hc:∀e∈es.take n,∀x∈e.leaves,x.dR=some x)
 (hw:aa E c Q { s with own:=(s.own.set jd none).set id (some (rs.set idx (.agg (cs.set j (.sl none k (es.take n)))))) }):aa E c Q s:=by
 intro w0 im0 cx a w h0 hG r
 have hlen:(es.take n).length=n:=by rw[List.length_take];omega
 have key:∃c',cx.le c'∧Rel w0 im0 c' { s with own:=s.own.set jd none } a w∧∀v,VR c' (.mu jd k 0 n cap) v→VR c' (.sl none k (es.take n)) v:=by
  cases hb:cx.β[jd]? with
  |none=>exact⟨cx,.refl _,r.mC jd,fun v hv=>by
    rcases hv.cZ with⟨g,hb',_,_⟩|⟨rfl,rfl,rfl⟩
    ·rw[hb] at hb';simp at hb'
    ·rw[List.take_zero];exact .base (.di k none 0)⟩
  |some p=>
   cases p with
   |none=>exact⟨cx,.refl _,r.mC jd,fun v hv=>by
     rcases hv.cZ with⟨g,hb',_,_⟩|⟨rfl,rfl,rfl⟩
     ·rw[hb] at hb';simp at hb'
     ·rw[List.take_zero];exact .base (.di k none 0)⟩
   |some p=>
    obtain⟨g,k'⟩:=p
    obtain⟨c',hle,hβ,_,_,r',cv,hl,hm,h1,hvr⟩:=r.oy (n:=n) hb ho2 rfl hc
    refine⟨c',hle,r',fun v hv=>?_⟩
    rcases hv.cZ with⟨g',hb',hcap,rfl⟩|⟨rfl,rfl,rfl⟩
    ·rw[hβ,hb] at hb'
     simp only[Option.some.injEq,Prod.mk.injEq] at hb'
     obtain⟨rfl,rfl⟩:=hb'
     have:=aS.sl (im:=c'.im) k' (es.take n) g 0 cap cv ab hl (fun i e j x he hj=>by rw[Nat.zero_add];exact hm i e j x he hj) h1 hvr
     rw[hlen] at this
     rw[Nat.zero_mul];exact .base this
    ·rw[List.take_zero];exact .base (.di k none 0)
 obtain⟨c',hle,r',hv⟩:=key
 have hown:(s.own.set jd none)[id]?=some (some rs):=by rw[List.getElem?_set_ne hne];exact ho
 have r2:=r'.Cu (y:= .sl none k (es.take n)) hown he hx aB hv
 exact hw w0 im0 c' a w h0 hG r2
end Go.az
end
section
namespace Go.Proofs.YthoonfpkfdjhiaaGreatDoor
open Go Go.az Go.RowKit Go.Bk
theorem ZK{g:Gt}{k:Nat}{x:Ex}{v:Vn}{nb:Bk}{kk:Int}(h:bQ g (k:Int)=true)(hx:g.an[k]?=some v)(hc:bJ v.book x=(nb,kk))(hk:kk=2∨kk=4):dO g (k:Int) x=(g,kk,0):=by
 rw[oM h hx,hc,if_pos hk]
theorem ZB{g:Gt}{k:Nat}{x:Ex}{v:Vn}{nb:Bk}{kk:Int}(h:bQ g (k:Int)=true)(hx:g.an[k]?=some v)(hc:bJ v.book x=(nb,kk))(hk:¬(kk=2∨kk=4)∧¬(kk=1∨kk=3)):dO g (k:Int) x=(g,0,1):=by
 rw[oM h hx,hc,if_neg hk.1,if_neg hk.2]
abbrev p8(v:Vn):AV:= .agg [bz v.book.aq,dp v.book.av,.sl (some 0) 1 (v.book.ids.map str),i64 v.book.clock,i64 v.book.bad,bz v.aF,i64 v.last,bl v.bp]
theorem Fm{no nt m k:Nat}{l:List Vn}{v:Vn}(h:0<nt):∀es,some ((l.map aO++spare 8 m).set k (p8 v))=some es→∀e∈es,∀z∈e.leaves,z.bw no nt=true:=by
 intro es he e hm z hz
 simp only[Option.some.injEq] at he
 subst he
 rcases List.mem_or_eq_of_mem_set hm with hm|rfl
 ·exact dw (no:=no) (nt:=nt) (m:=m) (l:=l) _ rfl e hm z hz
 ·simp only[AV.leaves,List.mem_cons,List.not_mem_nil,or_false] at hz
  rcases hz with rfl|rfl|rfl|rfl|rfl|rfl|rfl|rfl<;>first|rfl|exact decide_eq_true h
theorem QD{l:List Od}{x:Ex}(h:gJ l x=none):gz (kA x) l= -1:=by
 unfold gJ at h;unfold gz;rw[h]
theorem zP{l:List Od}{x:Ex}{p:Nat}(h:gJ l x=some p):gz (kA x) l=(p:Int):=by
 unfold gJ at h;unfold gz;rw[h]
theorem v8{x:Ex}(h:x.kind=1∨x.kind=4):j5 x=true:=by unfold j5;rcases h with h|h<;>rw[h]<;>rfl
theorem ZC{g:Gt}{k:Nat}{x:Ex}{v:Vn}{nb:Bk}{kk:Int}(h:bQ g (k:Int)=true)(hx:g.an[k]?=some v)(hc:bJ v.book x=(nb,kk))(hk:kk=1∨kk=3)(ho:x.kind=1∨x.kind=4)(hs:gJ v.aF x=none):dO g (k:Int) x=(dW g k (nC v x),3,0):=by
 rw[oM h hx,hc,if_neg (by simp only;omega),if_pos hk]
 simp only[me,v8 ho,if_true,hs]
theorem Xt{l:List Vn}{k m:Nat}{w:Vn}{x:Ex}{a b c:AV}(h:k<l.length):(((((l.map aO++spare 8 m).set k a).set k b).set k c).set k (.agg [bz w.book.aq,dp w.book.av,.sl none 1 (w.book.ids.map str++[str x.id]),i64 w.book.clock,i64 2,bz w.aF,i64 w.last,bl w.bp]))=(l.set k (nC w x)).map aO++spare 8 m:=by
 rw[List.set_set,List.set_set,List.set_set,←oD (v:=nC w x) h]
 congr 1
 simp[nC]
theorem QE{l:List Od}{x:Ex}{p:Nat}(h:(x.kind=1∨x.kind=4)→gJ l x=some p):(x.kind=1∨x.kind=4)→gz (kA x) l=(p:Int):=fun q=>zP (h q)
theorem ZE{g:Gt}{k:Nat}{x:Ex}{v:Vn}{nb:Bk}{p:Nat}(h:bQ g (k:Int)=true)(hx:g.an[k]?=some v)(hc:bJ v.book x=(nb,3))(hs:(x.kind=1∨x.kind=4)→gJ v.aF x=some p):dO g (k:Int) x=(dW g k ⟨nb,v.aF,v.last,v.bp⟩,3,0):=by
 rw[oM h hx,hc,if_neg aB,if_pos aB]
 simp only[me]
 by_cases ho:x.kind=1∨x.kind=4
 ·simp only[v8 ho,if_true,hs ho];rfl
 ·have:j5 x=false:=by unfold j5;simp only[not_or] at ho;simp[ho]
  simp only[this];rfl
theorem ZD{g:Gt}{k:Nat}{x:Ex}{v:Vn}{nb:Bk}(h:bQ g (k:Int)=true)(hx:g.an[k]?=some v)(hc:bJ v.book x=(nb,1))(ho:¬(x.kind=1∨x.kind=4)):dO g (k:Int) x=(dW g k ⟨nb,v.aF,g.now,v.bp⟩,1,0):=by
 rw[oM h hx,hc,if_neg aB,if_pos aB]
 have:j5 x=false:=by unfold j5;simp only[not_or] at ho;simp[ho]
 simp only[me,this];rfl
abbrev nj(v:Vn)(m2:Nat):AV:= .agg [bz v.book.aq,dp v.book.av,.sl none 1 (v.book.ids.map str),i64 v.book.clock,i64 v.book.bad,.mu 6 8 0 v.aF.length (v.aF.length+m2),i64 v.last,bl v.bp]
theorem xW{no nt m m2 k:Nat}{l:List Vn}{v:Vn}(h2:6<no):∀es,some ((l.map aO++spare 8 m).set k (nj v m2))=some es→∀e∈es,∀z∈e.leaves,z.bw no nt=true:=by
 intro es he e hm z hz
 simp only[Option.some.injEq] at he
 subst he
 rcases List.mem_or_eq_of_mem_set hm with hm|rfl
 ·exact dw (no:=no) (nt:=nt) (m:=m) (l:=l) _ rfl e hm z hz
 ·simp only[AV.leaves,List.mem_cons,List.not_mem_nil,or_false] at hz
  rcases hz with rfl|rfl|rfl|rfl|rfl|rfl|rfl|rfl<;>first|rfl|exact decide_eq_true h2
theorem xU{no nt m:Nat}{l:List Od}:∀es,some (l.map bf++spare 8 m)=some es→∀e∈es,∀z∈e.leaves,z.bw no nt=true:=uH fun x z hz=>by
 simp only[AV.leaves,List.mem_cons,List.not_mem_nil,or_false] at hz
 rcases hz with rfl|rfl|rfl|rfl|rfl|rfl|rfl|rfl<;>rfl
theorem AY{l:List Od}{p m:Nat}(h:p<l.length):((l.eraseIdx p).map bf++spare 8 m).take (l.length-1)=(l.eraseIdx p).map bf:=List.take_left' (by rw[List.length_map,List.length_eraseIdx_of_lt h])
theorem X7{l:List Od}{x:Ex}{p:Nat}(h:gJ l x=some p):p<l.length:=by
 unfold gJ at h
 obtain⟨h1,_⟩:=List.findIdx?_eq_some_iff_findIdx_eq.1 h
 exact h1
theorem ZF{g:Gt}{k:Nat}{x:Ex}{v:Vn}{nb:Bk}{p:Nat}(h:bQ g (k:Int)=true)(hx:g.an[k]?=some v)(hc:bJ v.book x=(nb,1))(ho:x.kind=1∨x.kind=4)(hs:gJ v.aF x=some p):dO g (k:Int) x=(dW g k ⟨nb,v.aF.eraseIdx p,g.now,v.bp⟩,1,0):=by
 rw[oM h hx,hc,if_neg aB,if_pos aB]
 simp only[me,v8 ho,if_true,hs]
theorem Xx{l:List Vn}{k m p:Nat}{w:Vn}{nb:Bk}{now:Int}{a b c d:AV}(h:k<l.length):((((((l.map aO++spare 8 m).set k a).set k b).set k c).set k d).set k (.agg [bz nb.aq,dp nb.av,.sl none 1 (nb.ids.map str),i64 nb.clock,i64 nb.bad,.sl none 8 ((w.aF.eraseIdx p).map bf),i64 now,bl w.bp]))=(l.set k ⟨nb,w.aF.eraseIdx p,now,w.bp⟩).map aO++spare 8 m:=by
 rw[List.set_set,List.set_set,List.set_set,List.set_set,←oD (v:=⟨nb,w.aF.eraseIdx p,now,w.bp⟩) h]
theorem Qo(g:Gt)(n:Int)(x:Ex)(hg:dn g)(ha:bQ g n=false):ai E 85 [bK g,i64 n,ao x] (fun r t=>r= .ax [bK g,i64 0,i64 1]∧t=[]):=by
 have hgi:=hg.fit
 refine ai.aC (n:=104) (rs:=[.cell 6 55,.tmp 7,.tmp 8]) Tryz.func85 rfl Tryz.ntmps85 rfl ?_
 repeat'(first
 |refine aa.ah fun K hK=>?_
 |(refine aa.region ?_;simp only[go_sem,ha])
 |(refine hK _ ?_;clear hK K)
 |refine aa.cond rfl (fun c=>?_) (fun c=>?_)<;>first|exact Bool.noConfusion c|(try simp only[dD] at c)
 |(refine ak.one (nP g hg) ae rfl ?_;simp only[go_sem,ha])
 |(refine ak.one (jv g n hgi) ae rfl ?_;simp only[go_sem,ha])
 |(
  refine aa.ret ?_
  refine aN.is ?_;simp only[go_sem,aI,aH,aG,aK,aJ,aL]<;>(first|fail)))
theorem Qk(g:Gt)(k:Nat)(w:Vn)(x:Ex)(hg:dn g)(hx0:g.an[k]?=some w)(ha:bQ g (k:Int)=true)(nb:Bk)(kk:Int)(hcf:bJ w.book x=(nb,kk))(hkk:¬kk=1∧¬kk=3):ai E 85 [bK g,i64 (k:Int),ao x] (fun r t=>r= .ax [bK (dO g (k:Int) x).1,i64 (dO g (k:Int) x).2.1,i64 (dO g (k:Int) x).2.2]∧t=[]):=by
 have hgi:=hg.fit
 have hg1:=hg.1
 have hg2:=hg.2.1
 have hkn:=cz hx0
 have hw0:=hg.2.2 w (List.mem_of_getElem? hx0)
 have hil:=hw0.2.2.1
 have hgk:(g.an.map aO)[k]?=some (aO w):=by rw[List.getElem?_map,hx0];rfl
 refine ai.aC (n:=104) (rs:=[.cell 6 55,.tmp 7,.tmp 8]) Tryz.func85 rfl Tryz.ntmps85 rfl ?_
 repeat'(first
 |refine aa.ah fun K hK=>?_
 |(refine aa.region ?_;simp only[go_sem,ha,hgk])
 |(refine aa.here 5 26 12 rfl ?_;refine aa.bB [0,1,2,3,4,9,5,6,7,8,10,11] [11] ae ae rfl ?_;simp only[go_sem,ha,hgk])
 |(refine aa.here 15 52 7 rfl ?_;refine aa.bB [0,1,2,3,4,5,6] [] ae ae rfl ?_;simp only[go_sem,ha,hgk])
 |(refine aa.here 17 60 14 rfl ?_;refine aa.rj (.take 0 (.take 1 (.take 2 (.take 3 (.take 4 (.take 5 (.take 6 (.take 7 (.take 8 (.take 9 (.take 10 (.take 11 (.take 12 (.take 13 .done)))))))))))))) [[],[],[1],[1,2],[1,2,3],[1,2,3,4],[],[6],[6,7],[1,2,3,4,5,6,7,8],[0,1,2,3,4,5,6,7,8,9],[0,1,2,3,4,5,6,7,8,9,10],[0,1,2,3,4,5,6,7,8,9,10,11],[0,1,2,3,4,5,6,7,8,9,10,11,12]] [] ae ae ?_;simp only[go_sem,ha,hgk])
 |(refine hK _ ?_;clear hK K)
 |refine aa.block ?_
 |refine aa.cond rfl (fun c=>?_) (fun c=>?_)<;>first|exact Bool.noConfusion c|(try simp only[dD] at c)
 |refine aa.skip ?_
 |(refine ak.one (nP g hg) ae rfl ?_;simp only[go_sem,ha,hgk])
 |(refine ak.one (jv g (k:Int) hgi) ae rfl ?_;simp only[go_sem,ha,hgk])
 |(refine ak.one (qw w.book x hw0.1 hw0.2.1 hw0.2.2.1) ae rfl ?_;simp only[hcf];simp only[go_sem,ha,hgk])
 |(refine ak.one (qJ _ _ (by(omega))) ae rfl ?_;simp only[go_sem,ha,hgk])
 |(refine aP.du (fun h=>?_) (fun h=>?_)<;>simp only[h,go_sem,ha,hgk]<;>(try simp only[dD] at h))
 |(
  refine aa.ret ?_
  refine aN.is ?_;simp only[go_sem,aI,aH,aG,aK,aJ,aL]<;>(first|(rw[ZK ha hx0 hcf ab];simp;done)|(rw[ZB ha hx0 hcf ab];simp;done)))
 |(exfalso;omega))
theorem zC(g:Gt)(k:Nat)(w:Vn)(x:Ex)(hg:dn g)(hx0:g.an[k]?=some w)(ha:bQ g (k:Int)=true)(nb:Bk)(kk:Int)(hcf:bJ w.book x=(nb,kk))(hkk:kk=1∨kk=3)(hop:x.kind=1∨x.kind=4)(hsn:gJ w.aF x=none):ai E 85 [bK g,i64 (k:Int),ao x] (fun r t=>r= .ax [bK (dO g (k:Int) x).1,i64 (dO g (k:Int) x).2.1,i64 (dO g (k:Int) x).2.2]∧t=[]):=by
 have hgi:=hg.fit
 have hg1:=hg.1
 have hg2:=hg.2.1
 have hkn:=cz hx0
 have hw0:=hg.2.2 w (List.mem_of_getElem? hx0)
 have hil:=hw0.2.2.1
 have hix:=QD hsn
 refine ai.aC (n:=104) (rs:=[.cell 6 55,.tmp 7,.tmp 8]) Tryz.func85 rfl Tryz.ntmps85 rfl ?_
 repeat'(first
 |(
  refine aa.jS hc1 ?_
  first
  |(refine aa.jE [0,1,2,3,4,6] aj rfl rfl ?_;simp only[go_sem,lh,List.length_map];refine aa.weaken ?_ (hc1 m);(try simp only[go_sem]);(repeat'(first|refine And.intro ?_ ?_|trivial|exact .inr (bm rfl)|exact .inr dw));done)
  |(have he:g.an=[]:=Classical.byContradiction fun hne=>by
     have:=hbb (by simpa using hne)
     simp_all
    refine aa.kK 3 0 8 _ rfl rfl ?_
    simp only[go_sem]
    refine aa.weaken ?_ (hc1 0);(try simp only[go_sem,he,List.length_nil,List.map_nil,kZ]);(repeat'(first|refine And.intro ?_ ?_|trivial|exact .inr (bm rfl)));done))
 |refine aa.ah fun K hK=>?_
 |(
  refine aa.here 1 5 5 rfl ?_
  first
  |(have h0:=hc1;clear h0;refine aa.aW ?_;refine al.at 5 2 rfl ?_;simp only[go_sem])
  |((fail_if_success(have h0:=hc1));refine aa.cutAt (ι:=Nat) [5,6,7,8] (fun(m:Nat)=>[]) (fun(m:Nat)=>[some [.agg [fe g.an,ct g.aY,bl g.kill,i64 g.now,i64 g.pat]],some [ao x],some [.agg [.aw,.aw,bl false,i64 0,i64 0]],some [.agg [.mu 5 8 0 g.an.length (g.an.length+m),ct g.aY,bl g.kill,i64 g.now,i64 g.pat]],some [.agg [.aw,.aw,bl false,i64 0,i64 0]],some (g.an.map aO++spare 8 m)]) (fun(m:Nat)=>[]) hK (fun m=>?_) (fun hc1=>?_)))
 |(refine Cut.mk ?_;simp only[go_sem])
 |(
  refine aa.here 4 21 5 rfl ?_
  have hxk:((g.an.map aO++spare 8 m).set k (p8 w))[k]?=some (p8 w):=List.getElem?_set_self (by simp;omega)
  have hxk2:∀z,(((g.an.map aO++spare 8 m).set k (p8 w)).set k z)[k]?=some z:=fun z=>List.getElem?_set_self (by simp;omega)
  refine aa.region ?_;simp only[go_sem,ha])
 |(
  refine aa.here 5 26 12 rfl ?_
  refine aa.bB [0,1,2,3,4,9,5,6,7,8,10,11] [11] ae ae rfl ?_;simp only[go_sem,ha,hxk])
 |(
  refine aa.here 15 52 7 rfl ?_
  refine aa.bB [0,1,2,3,4,5,6] [] ae ae rfl ?_;simp only[go_sem,ha,hxk])
 |(
  refine aa.here 17 60 14 rfl ?_
  refine aa.rj (.take 0 (.take 1 (.take 2 (.take 3 (.take 4 (.take 5 (.take 6 (.take 7 (.take 8 (.take 9 (.take 10 (.take 11 (.take 12 (.take 13 .done)))))))))))))) [[],[],[1],[1,2],[1,2,3],[1,2,3,4],[],[6],[6,7],[1,2,3,4,5,6,7,8],[0,1,2,3,4,5,6,7,8,9],[0,1,2,3,4,5,6,7,8,9,10],[0,1,2,3,4,5,6,7,8,9,10,11],[0,1,2,3,4,5,6,7,8,9,10,11,12]] [] ae ae ?_;simp only[go_sem,ha,hxk])
 |(
  refine aa.here 18 73 5 rfl ?_
  refine aa.region ?_;simp only[go_sem,ha,hxk2])
 |(
  refine aa.here 19 77 4 rfl ?_
  refine aa.lN 5 k 2 rfl (List.getElem?_set_self (by simp;omega)) rfl ?_
  simp only[go_sem,ha]
  rw[Xt hkn]
  refine aa.eT 6 0 (jd:=5) (k:=8) (n:=g.an.length) (cap:=g.an.length+m) _ ((g.an.set k (nC w x)).map aO++spare 8 m) aj rfl rfl rfl (by simp[da]) (by rw[gM];exact fm _) ?_
  rw[gM]
  simp only[go_sem,ha]
  refine aa.region ?_;simp only[go_sem,ha])
 |(
  refine aa.here 5 15 5 rfl ?_
  obtain⟨v,hx⟩:∃v,g.an[i]?=some v:=⟨_,List.getElem?_eq_getElem ab⟩
  have hv:=hg.2.2 v (List.mem_of_getElem? hx)
  have hx2:(g.an.map aO++spare 8 m)[i]?=some (aO v):=by rw[List.getElem?_append_left (by simpa using cz hx),List.getElem?_map,hx];rfl
  have hvw:i=k→v=w:=fun e=>by subst e;rw[hx] at hx0;exact Option.some.inj hx0
  (first|have hki:=mz hbk|(have hki:=mA hbk;have hx3:((g.an.map aO++spare 8 m).set k (p8 w))[i]?=some (aO v):=(List.getElem?_set_ne ab).trans hx2))
  refine aa.region ?_;simp only[go_sem])
 |(
  refine aa.here 7 29 11 rfl ?_
  (first|rw[cL hx]|rw[gI ab hx])
  refine aa.region ?_;simp only[go_sem])
 |(
  refine aa.here 10 57 2 rfl ?_
  (first|rw[cL hx]|rw[gI ab hx]|skip)
  (try rw[List.set_set])
  (try(obtain rfl:=hvw hik1;subst hik1))
  refine aa.region ?_;simp only[go_sem])
 |(
  refine aa.here 8 39 11 rfl ?_
  (first|rw[cL hx]|rw[gI ab hx])
  rcases Nat.decEq i k with hik0|hik1<;>(first|(exfalso;omega)|(refine aa.region ?_;simp only[go_sem])))
 |(
  refine aa.here 9 49 9 rfl ?_
  first
  |(have h0:=hik1;clear h0
    have hx9:((g.an.map aO++spare 8 m).set i (.agg [bz v.book.aq,dp v.book.av,.sl (some 0) 1 (v.book.ids.map str),i64 v.book.clock,i64 v.book.bad,bz v.aF,i64 v.last,bl v.bp]))[i]?=some (.agg [bz v.book.aq,dp v.book.av,.sl (some 0) 1 (v.book.ids.map str),i64 v.book.clock,i64 v.book.bad,bz v.aF,i64 v.last,bl v.bp]):=List.getElem?_set_self (by simp;omega)
    refine aa.region ?_;simp only[go_sem])
  |((first|rw[cL hx]|rw[gI ab hx]);refine aa.region ?_;simp only[go_sem]))
 |(
  refine aa.here 11 58 5 rfl ?_
  (first|(exfalso;have hki:=mz hbk;omega)|(have hki:=mA hbk;refine aa.region ?_;simp only[go_sem])))
 |(
  refine aa.here 3 5 4 rfl ?_
  refine aa.aW ?_
  refine al.kJ eM ?_
  simp only[go_sem]
  refine al.at 3 1 rfl ?_
  simp only[go_sem]
  refine al.ku kf eM rfl rfl rfl (by simp;omega) (by simp;omega) ?_
  intro m
  simp only[go_sem]
  refine al.of ?_
  simp only[go_sem])
 |(refine aa.here 1 14 4 rfl ?_;refine aa.aW ?_;refine al.at 4 1 rfl ?_;simp only[go_sem,ha])
 |(refine aa.region ?_;simp only[go_sem,ha])
 |(refine hK _ ?_;clear hK K)
 |refine aa.block ?_
 |refine aa.cond rfl (fun c=>?_) (fun c=>?_)<;>first|exact Bool.noConfusion c|(try simp only[dD] at c)
 |refine aa.skip ?_
 |(refine aa.exit ?_;simp only[go_sem,ha])
 |(refine ak.one (jv g (k:Int) hgi) ae rfl ?_;simp only[go_sem,ha])
 |(refine ak.one (qw w.book x hw0.1 hw0.2.1 hw0.2.2.1) ae rfl ?_;simp only[hcf];simp only[go_sem,ha])
 |(refine ak.one (qJ w.aF x (by have:=hw0.2.2.2;omega)) ae rfl ?_;simp only[hix];simp only[go_sem,ha])
 |(refine ak.one (eS v.book.aq hv.1) ae rfl ?_;simp only[go_sem])
 |(refine ak.one (eS v.aF hv.2.2.2) ae rfl ?_;simp only[go_sem])
 |(refine ak.one (ky v.book.av hv.2.1) ae rfl ?_;simp only[go_sem])
 |(have h0:=hik1;clear h0;refine ak.of (wL v.book.ids hv.2.2.1) ae rfl ?_;rintro r t ⟨rfl,rfl⟩;simp only[go_sem])
 |(refine ak.one (kX v.book.ids hv.2.2.1) ae rfl ?_;simp only[go_sem])
 |(refine ak.one (kH g.aY hg2) ae rfl ?_;simp only[go_sem])
 |(refine al.call (rs:=[.cell 2 55]) Tryz.func127 rfl Tryz.ntmps127 rfl ae rfl rfl ?_;simp only[go_sem])
 |(refine al.call (rs:=[.tmp 2]) Tryz.func78 rfl Tryz.ntmps78 rfl ae rfl rfl ?_;simp only[go_sem])
 |(refine aP.du (fun h=>?_) (fun h=>?_)<;>simp only[h,go_sem,ha]<;>(try simp only[dD] at h))
 |(refine aQ.ez af ?_;(try simp only[go_sem,ha]))
 |(refine aQ.gV af ?_;(try simp only[go_sem,ha]))
 |((first|refine aQ.mR ?_ (fun b hb=>?_)|with_reducible refine And.intro ?_ ?_);(focus(first|omega|(simp;done)));(try simp only[hb,go_sem,ha]))
 |(
  refine aa.here 3 13 1 rfl ?_
  refine aa.dT (ι:=Bool×Nat) [3,4,13,14,15,16,17,18,19,20,21,22,23,24,25,26,27,28,29,30,31,32,33,34,35,36,37,38,39,40,41,42,43,44,45,46,47,48,49,50,51,52,53,54,55,56,57] (fun⟨bk,i⟩=>[(12,i64 i)]) (fun⟨bk,i⟩=>[some [.agg [fe g.an,ct g.aY,bl g.kill,i64 g.now,i64 g.pat]],some [ao x],some [.agg [.aw,.aw,bl false,i64 0,i64 0]],some [.agg [.mu 5 8 0 g.an.length (g.an.length+m),ct g.aY,bl g.kill,i64 g.now,i64 g.pat]],some [.agg [.aw,.aw,bl false,i64 0,i64 0]],some (bif bk then((g.an.map aO++spare 8 m).set k (p8 w)) else(g.an.map aO++spare 8 m))]) (fun⟨bk,i⟩=>(bif bk then[w.book.ids.length] else[])) (fun⟨bk,i⟩=>i≤g.an.length∧bk=decide (k<i)) (fun⟨bk,i⟩=>g.an.length-i) ((false,0)) ?_ ?_ ?_
  ·(try simp only[go_sem]);(repeat'(first|refine And.intro ?_ ?_|trivial|exact .inr (bm rfl)|exact .inr dw));done
  ·exact⟨by omega,by simp⟩
  rintro⟨bk,i⟩ ⟨h1,hbk⟩
  simp only[go_sem]
  cases bk<;>simp only[cond_true,cond_false])
 |(
  refine⟨(false,i+1),?_,?_,?_⟩
  ·(try simp only[go_sem]);(try rw[aM ab ab]);(repeat'(first|refine And.intro ?_ ?_|exact .inr rfl|exact .inr (bm rfl)|exact .inr dw|exact .inr ⟨by simp,by simp⟩));done
  ·(exact⟨by omega,sx ab⟩)
  ·(try simp only[]);omega)
 |(
  refine⟨(true,i+1),?_,?_,?_⟩
  ·(try simp only[go_sem]);(try rw[aM ab ab]);(repeat'(first|refine And.intro ?_ ?_|exact .inr rfl|trivial|exact .inr (bm rfl)|exact .inr (Fm aj)));done
  ·(exact⟨by omega,qA ab⟩)
  ·(try simp only[]);omega)
 |(
  refine aa.ret ?_
  refine aN.is ?_;simp only[go_sem,aI,aH,aG,aK,aJ,aL]<;>(first|(rw[ZC ha hx0 hcf hkk hop hsn];simp[dW];done)|skip))
 |(refine aa.ret ?_;refine bW.ret rfl ?_;simp only[go_sem,ha])
 |(refine aa.ret ?_;simp only[fZ,fU];refine bW.ret rfl ?_;simp only[go_sem,ha])
 |(refine al.of ?_;simp only[go_sem,ha])
 |((fail_if_success(have:=hbb));(with_reducible intro bb hbb))
 |(exfalso;omega)
 |refine aa.fin af ?_)
theorem zD(g:Gt)(k:Nat)(w:Vn)(x:Ex)(hg:dn g)(hx0:g.an[k]?=some w)(ha:bQ g (k:Int)=true)(nb:Bk)(p:Nat)(hcf:bJ w.book x=(nb,3))(hsn:(x.kind=1∨x.kind=4)→gJ w.aF x=some p):ai E 85 [bK g,i64 (k:Int),ao x] (fun r t=>r= .ax [bK (dO g (k:Int) x).1,i64 (dO g (k:Int) x).2.1,i64 (dO g (k:Int) x).2.2]∧t=[]):=by
 have hgi:=hg.fit
 have hg1:=hg.1
 have hg2:=hg.2.1
 have hkn:=cz hx0
 have hw0:=hg.2.2 w (List.mem_of_getElem? hx0)
 have hil:=hw0.2.2.1
 have hix:=QE hsn
 refine ai.aC (n:=104) (rs:=[.cell 6 55,.tmp 7,.tmp 8]) Tryz.func85 rfl Tryz.ntmps85 rfl ?_
 repeat'(first
 |(
  refine aa.jS hc1 ?_
  first
  |(refine aa.jE [0,1,2,3,4,6] aj rfl rfl ?_;simp only[go_sem,lh,List.length_map];refine aa.weaken ?_ (hc1 m);(try simp only[go_sem]);(repeat'(first|refine And.intro ?_ ?_|trivial|exact .inr (bm rfl)|exact .inr dw));done)
  |(have he:g.an=[]:=Classical.byContradiction fun hne=>by
     have:=hbb (by simpa using hne)
     simp_all
    refine aa.kK 3 0 8 _ rfl rfl ?_
    simp only[go_sem]
    refine aa.weaken ?_ (hc1 0);(try simp only[go_sem,he,List.length_nil,List.map_nil,kZ]);(repeat'(first|refine And.intro ?_ ?_|trivial|exact .inr (bm rfl)));done))
 |refine aa.ah fun K hK=>?_
 |(
  refine aa.here 1 5 5 rfl ?_
  first
  |(have h0:=hc1;clear h0;refine aa.aW ?_;refine al.at 5 2 rfl ?_;simp only[go_sem])
  |((fail_if_success(have h0:=hc1));refine aa.cutAt (ι:=Nat) [5,6,7,8] (fun(m:Nat)=>[]) (fun(m:Nat)=>[some [.agg [fe g.an,ct g.aY,bl g.kill,i64 g.now,i64 g.pat]],some [ao x],some [.agg [.aw,.aw,bl false,i64 0,i64 0]],some [.agg [.mu 5 8 0 g.an.length (g.an.length+m),ct g.aY,bl g.kill,i64 g.now,i64 g.pat]],some [.agg [.aw,.aw,bl false,i64 0,i64 0]],some (g.an.map aO++spare 8 m)]) (fun(m:Nat)=>[]) hK (fun m=>?_) (fun hc1=>?_)))
 |(refine Cut.mk ?_;simp only[go_sem])
 |(
  refine aa.here 4 21 5 rfl ?_
  have hxk:(g.an.map aO++spare 8 m)[k]?=some (aO w):=by rw[List.getElem?_append_left (by simpa using cz hx0),List.getElem?_map,hx0];rfl
  have hxk2:∀z,((g.an.map aO++spare 8 m).set k z)[k]?=some z:=fun z=>List.getElem?_set_self (by simp;omega)
  refine aa.region ?_;simp only[go_sem,ha])
 |(
  refine aa.here 5 26 12 rfl ?_
  refine aa.bB [0,1,2,3,4,9,5,6,7,8,10,11] [11] ae ae rfl ?_;simp only[go_sem,ha,hxk])
 |(
  refine aa.here 15 52 7 rfl ?_
  refine aa.bB [0,1,2,3,4,5,6] [] ae ae rfl ?_;simp only[go_sem,ha,hxk])
 |(
  refine aa.here 20 78 5 rfl ?_
  refine aa.region ?_;simp only[go_sem,ha,hxk])
 |(
  refine aa.here 25 102 5 rfl ?_
  rw[show(g.an.map aO++spare 8 m).set k (.agg [bz nb.aq,dp nb.av,.sl none 1 (nb.ids.map str),i64 nb.clock,i64 nb.bad,bz w.aF,i64 w.last,bl w.bp])=(g.an.set k ⟨nb,w.aF,w.last,w.bp⟩).map aO++spare 8 m from oD (v:=⟨nb,w.aF,w.last,w.bp⟩) hkn]
  refine aa.eT 6 0 (jd:=5) (k:=8) (n:=g.an.length) (cap:=g.an.length+m) _ ((g.an.set k ⟨nb,w.aF,w.last,w.bp⟩).map aO++spare 8 m) aj rfl rfl rfl (by simp[da]) (by rw[gM];exact fm _) ?_
  rw[gM]
  simp only[go_sem,ha]
  refine aa.region ?_;simp only[go_sem,ha])
 |(
  refine aa.here 5 15 5 rfl ?_
  obtain⟨v,hx⟩:∃v,g.an[i]?=some v:=⟨_,List.getElem?_eq_getElem ab⟩
  have hv:=hg.2.2 v (List.mem_of_getElem? hx)
  have hx2:(g.an.map aO++spare 8 m)[i]?=some (aO v):=by rw[List.getElem?_append_left (by simpa using cz hx),List.getElem?_map,hx];rfl
  refine aa.region ?_;simp only[go_sem])
 |(
  refine aa.here 7 29 11 rfl ?_
  (try rw[cL hx])
  refine aa.region ?_;simp only[go_sem])
 |(
  refine aa.here 8 39 11 rfl ?_
  (try rw[cL hx])
  refine aa.region ?_;simp only[go_sem])
 |(
  refine aa.here 9 49 9 rfl ?_
  (try rw[cL hx])
  refine aa.region ?_;simp only[go_sem])
 |(
  refine aa.here 10 57 2 rfl ?_
  (try rw[cL hx])
  refine aa.region ?_;simp only[go_sem])
 |(
  refine aa.here 3 5 4 rfl ?_
  refine aa.aW ?_
  refine al.kJ eM ?_
  simp only[go_sem]
  refine al.at 3 1 rfl ?_
  simp only[go_sem]
  refine al.ku kf eM rfl rfl rfl (by simp;omega) (by simp;omega) ?_
  intro m
  simp only[go_sem]
  refine al.of ?_
  simp only[go_sem])
 |(refine aa.here 1 14 4 rfl ?_;refine aa.aW ?_;refine al.at 4 1 rfl ?_;simp only[go_sem,ha])
 |(refine aa.region ?_;simp only[go_sem,ha])
 |(refine hK _ ?_;clear hK K)
 |refine aa.block ?_
 |refine aa.cond rfl (fun c=>?_) (fun c=>?_)<;>first|exact Bool.noConfusion c|(try simp only[dD] at c)
 |refine aa.skip ?_
 |(refine aa.exit ?_;simp only[go_sem,ha])
 |(refine ak.one (jv g (k:Int) hgi) ae rfl ?_;simp only[go_sem,ha])
 |(refine ak.one (qw w.book x hw0.1 hw0.2.1 hw0.2.2.1) ae rfl ?_;simp only[hcf];simp only[go_sem,ha])
 |(have hop:x.kind=1∨x.kind=4:=ab;refine ak.one (qJ w.aF x (by have:=hw0.2.2.2;omega)) ae rfl ?_;simp only[hix hop];simp only[go_sem,ha])
 |(refine ak.one (eS v.book.aq hv.1) ae rfl ?_;simp only[go_sem])
 |(refine ak.one (eS v.aF hv.2.2.2) ae rfl ?_;simp only[go_sem])
 |(refine ak.one (ky v.book.av hv.2.1) ae rfl ?_;simp only[go_sem])
 |(refine ak.one (kX v.book.ids hv.2.2.1) ae rfl ?_;simp only[go_sem])
 |(refine ak.one (kH g.aY hg2) ae rfl ?_;simp only[go_sem])
 |(refine al.call (rs:=[.cell 2 55]) Tryz.func127 rfl Tryz.ntmps127 rfl ae rfl rfl ?_;simp only[go_sem])
 |(refine al.call (rs:=[.tmp 2]) Tryz.func78 rfl Tryz.ntmps78 rfl ae rfl rfl ?_;simp only[go_sem])
 |(refine aP.du (fun h=>?_) (fun h=>?_)<;>simp only[h,go_sem,ha]<;>(try simp only[dD] at h))
 |(refine aQ.ez af ?_;(try simp only[go_sem,ha]))
 |(refine aQ.gV af ?_;(try simp only[go_sem,ha]))
 |((with_reducible refine And.intro ?_ ?_);(focus(first|omega|(simp;done)));(try simp only[hb,go_sem,ha]))
 |(
  refine aa.here 3 13 1 rfl ?_
  refine aa.dU (ι:=Nat) [3,4,13,14,15,16,17,18,19,20,21,22,23,24,25,26,27,28,29,30,31,32,33,34,35,36,37,38,39,40,41,42,43,44,45,46,47,48,49,50,51,52,53,54,55,56,57] (fun(i:Nat)=>[(12,i64 i)]) (fun(i:Nat)=>i≤g.an.length) (fun(i:Nat)=>g.an.length-i) (0) ?_ ?_ ?_
  ·(try simp only[go_sem]);(repeat'(first|refine And.intro ?_ ?_|trivial|exact .inr (bm rfl)|exact .inr dw));done
  ·omega
  rintro i h1
  simp only[go_sem])
 |(
  refine⟨i+1,?_,?_,?_⟩
  ·(try simp only[go_sem]);(try rw[aM ab ab]);(repeat'(first|refine And.intro ?_ ?_|exact .inr rfl|trivial|exact .inr (bm rfl)|exact .inr dw));done
  ·omega
  ·(try simp only[]);omega)
 |(
  refine aa.ret ?_
  refine aN.is ?_;simp only[go_sem,aI,aH,aG,aK,aJ,aL]<;>((rw[ZE ha hx0 hcf hsn];simp[dW];done)))
 |(refine aa.ret ?_;refine bW.ret rfl ?_;simp only[go_sem,ha])
 |(refine aa.ret ?_;simp only[fZ,fU];refine bW.ret rfl ?_;simp only[go_sem,ha])
 |(refine al.of ?_;simp only[go_sem,ha])
 |((fail_if_success(have:=hbb));(with_reducible intro bb hbb))
 |refine aa.fin af ?_)
theorem Qm(g:Gt)(k:Nat)(w:Vn)(x:Ex)(hg:dn g)(hx0:g.an[k]?=some w)(ha:bQ g (k:Int)=true)(nb:Bk)(hcf:bJ w.book x=(nb,1))(hnop:¬(x.kind=1∨x.kind=4)):ai E 85 [bK g,i64 (k:Int),ao x] (fun r t=>r= .ax [bK (dO g (k:Int) x).1,i64 (dO g (k:Int) x).2.1,i64 (dO g (k:Int) x).2.2]∧t=[]):=by
 have hgi:=hg.fit
 have hg1:=hg.1
 have hg2:=hg.2.1
 have hkn:=cz hx0
 have hw0:=hg.2.2 w (List.mem_of_getElem? hx0)
 have hil:=hw0.2.2.1
 refine ai.aC (n:=104) (rs:=[.cell 6 55,.tmp 7,.tmp 8]) Tryz.func85 rfl Tryz.ntmps85 rfl ?_
 repeat'(first
 |(
  refine aa.jS hc1 ?_
  first
  |(refine aa.jE [0,1,2,3,4,6] aj rfl rfl ?_;simp only[go_sem,lh,List.length_map];refine aa.weaken ?_ (hc1 m);(try simp only[go_sem]);(repeat'(first|refine And.intro ?_ ?_|trivial|exact .inr (bm rfl)|exact .inr dw));done)
  |(have he:g.an=[]:=Classical.byContradiction fun hne=>by
     have:=hbb (by simpa using hne)
     simp_all
    refine aa.kK 3 0 8 _ rfl rfl ?_
    simp only[go_sem]
    refine aa.weaken ?_ (hc1 0);(try simp only[go_sem,he,List.length_nil,List.map_nil,kZ]);(repeat'(first|refine And.intro ?_ ?_|trivial|exact .inr (bm rfl)));done))
 |refine aa.ah fun K hK=>?_
 |(
  refine aa.here 1 5 5 rfl ?_
  first
  |(have h0:=hc1;clear h0;refine aa.aW ?_;refine al.at 5 2 rfl ?_;simp only[go_sem])
  |((fail_if_success(have h0:=hc1));refine aa.cutAt (ι:=Nat) [5,6,7,8] (fun(m:Nat)=>[]) (fun(m:Nat)=>[some [.agg [fe g.an,ct g.aY,bl g.kill,i64 g.now,i64 g.pat]],some [ao x],some [.agg [.aw,.aw,bl false,i64 0,i64 0]],some [.agg [.mu 5 8 0 g.an.length (g.an.length+m),ct g.aY,bl g.kill,i64 g.now,i64 g.pat]],some [.agg [.aw,.aw,bl false,i64 0,i64 0]],some (g.an.map aO++spare 8 m)]) (fun(m:Nat)=>[]) hK (fun m=>?_) (fun hc1=>?_)))
 |(refine Cut.mk ?_;simp only[go_sem])
 |(
  refine aa.here 4 21 5 rfl ?_
  have hxk:(g.an.map aO++spare 8 m)[k]?=some (aO w):=by rw[List.getElem?_append_left (by simpa using cz hx0),List.getElem?_map,hx0];rfl
  have hxk2:∀z,((g.an.map aO++spare 8 m).set k z)[k]?=some z:=fun z=>List.getElem?_set_self (by simp;omega)
  refine aa.region ?_;simp only[go_sem,ha])
 |(
  refine aa.here 5 26 12 rfl ?_
  refine aa.bB [0,1,2,3,4,9,5,6,7,8,10,11] [11] ae ae rfl ?_;simp only[go_sem,ha,hxk])
 |(
  refine aa.here 20 78 5 rfl ?_
  refine aa.region ?_;simp only[go_sem,ha,hxk])
 |(
  refine aa.here 22 84 6 rfl ?_
  refine aa.region ?_;simp only[go_sem,ha,hxk2])
 |(
  refine aa.here 25 102 5 rfl ?_
  (try rw[List.set_set])
  rw[show(g.an.map aO++spare 8 m).set k (.agg [bz nb.aq,dp nb.av,.sl none 1 (nb.ids.map str),i64 nb.clock,i64 nb.bad,bz w.aF,i64 g.now,bl w.bp])=(g.an.set k ⟨nb,w.aF,g.now,w.bp⟩).map aO++spare 8 m from oD (v:=⟨nb,w.aF,g.now,w.bp⟩) hkn]
  refine aa.eT 6 0 (jd:=5) (k:=8) (n:=g.an.length) (cap:=g.an.length+m) _ ((g.an.set k ⟨nb,w.aF,g.now,w.bp⟩).map aO++spare 8 m) aj rfl rfl rfl (by simp[da]) (by rw[gM];exact fm _) ?_
  rw[gM]
  simp only[go_sem,ha]
  refine aa.region ?_;simp only[go_sem,ha])
 |(
  refine aa.here 5 15 5 rfl ?_
  obtain⟨v,hx⟩:∃v,g.an[i]?=some v:=⟨_,List.getElem?_eq_getElem ab⟩
  have hv:=hg.2.2 v (List.mem_of_getElem? hx)
  have hx2:(g.an.map aO++spare 8 m)[i]?=some (aO v):=by rw[List.getElem?_append_left (by simpa using cz hx),List.getElem?_map,hx];rfl
  refine aa.region ?_;simp only[go_sem])
 |(
  refine aa.here 7 29 11 rfl ?_
  (try rw[cL hx])
  refine aa.region ?_;simp only[go_sem])
 |(
  refine aa.here 8 39 11 rfl ?_
  (try rw[cL hx])
  refine aa.region ?_;simp only[go_sem])
 |(
  refine aa.here 9 49 9 rfl ?_
  (try rw[cL hx])
  refine aa.region ?_;simp only[go_sem])
 |(
  refine aa.here 10 57 2 rfl ?_
  (try rw[cL hx])
  refine aa.region ?_;simp only[go_sem])
 |(
  refine aa.here 3 5 4 rfl ?_
  refine aa.aW ?_
  refine al.kJ eM ?_
  simp only[go_sem]
  refine al.at 3 1 rfl ?_
  simp only[go_sem]
  refine al.ku kf eM rfl rfl rfl (by simp;omega) (by simp;omega) ?_
  intro m
  simp only[go_sem]
  refine al.of ?_
  simp only[go_sem])
 |(refine aa.here 1 14 4 rfl ?_;refine aa.aW ?_;refine al.at 4 1 rfl ?_;simp only[go_sem,ha])
 |(refine aa.region ?_;simp only[go_sem,ha])
 |(refine aa.here 15 52 7 rfl ?_;refine aa.bB [0,1,2,3,4,5,6] [] ae ae rfl ?_;simp only[go_sem,ha])
 |(refine aa.here 17 60 14 rfl ?_;refine aa.rj (.take 0 (.take 1 (.take 2 (.take 3 (.take 4 (.take 5 (.take 6 (.take 7 (.take 8 (.take 9 (.take 10 (.take 11 (.take 12 (.take 13 .done)))))))))))))) [[],[],[1],[1,2],[1,2,3],[1,2,3,4],[],[6],[6,7],[1,2,3,4,5,6,7,8],[0,1,2,3,4,5,6,7,8,9],[0,1,2,3,4,5,6,7,8,9,10],[0,1,2,3,4,5,6,7,8,9,10,11],[0,1,2,3,4,5,6,7,8,9,10,11,12]] [] ae ae ?_;simp only[go_sem,ha])
 |(refine hK _ ?_;clear hK K)
 |refine aa.block ?_
 |refine aa.cond rfl (fun c=>?_) (fun c=>?_)<;>first|exact Bool.noConfusion c|(try simp only[dD] at c)
 |refine aa.skip ?_
 |(refine aa.exit ?_;simp only[go_sem,ha])
 |(refine ak.one (jv g (k:Int) hgi) ae rfl ?_;simp only[go_sem,ha])
 |(refine ak.one (qw w.book x hw0.1 hw0.2.1 hw0.2.2.1) ae rfl ?_;simp only[hcf];simp only[go_sem,ha])
 |(refine ak.one (qJ _ _ (by(omega))) ae rfl ?_;simp only[go_sem,ha])
 |(refine ak.one (eS v.book.aq hv.1) ae rfl ?_;simp only[go_sem])
 |(refine ak.one (eS v.aF hv.2.2.2) ae rfl ?_;simp only[go_sem])
 |(refine ak.one (ky v.book.av hv.2.1) ae rfl ?_;simp only[go_sem])
 |(refine ak.one (kX v.book.ids hv.2.2.1) ae rfl ?_;simp only[go_sem])
 |(refine ak.one (kH g.aY hg2) ae rfl ?_;simp only[go_sem])
 |(refine al.call (rs:=[.cell 2 55]) Tryz.func127 rfl Tryz.ntmps127 rfl ae rfl rfl ?_;simp only[go_sem])
 |(refine al.call (rs:=[.tmp 2]) Tryz.func78 rfl Tryz.ntmps78 rfl ae rfl rfl ?_;simp only[go_sem])
 |(refine aP.du (fun h=>?_) (fun h=>?_)<;>simp only[h,go_sem,ha]<;>(try simp only[dD] at h))
 |(refine aQ.ez af ?_;(try simp only[go_sem,ha]))
 |(refine aQ.gV af ?_;(try simp only[go_sem,ha]))
 |((first|refine aQ.nth ?_ (fun b hb=>?_)|refine aQ.mR ?_ (fun b hb=>?_)|with_reducible refine And.intro ?_ ?_);(focus(first|omega|(simp;done)));(try simp only[hb,go_sem,ha]))
 |(
  refine aa.here 3 13 1 rfl ?_
  refine aa.dU (ι:=Nat) [3,4,13,14,15,16,17,18,19,20,21,22,23,24,25,26,27,28,29,30,31,32,33,34,35,36,37,38,39,40,41,42,43,44,45,46,47,48,49,50,51,52,53,54,55,56,57] (fun(i:Nat)=>[(12,i64 i)]) (fun(i:Nat)=>i≤g.an.length) (fun(i:Nat)=>g.an.length-i) (0) ?_ ?_ ?_
  ·(try simp only[go_sem]);(repeat'(first|refine And.intro ?_ ?_|trivial|exact .inr (bm rfl)|exact .inr dw));done
  ·omega
  rintro i h1
  simp only[go_sem])
 |(
  refine⟨i+1,?_,?_,?_⟩
  ·(try simp only[go_sem]);(try rw[aM ab ab]);(repeat'(first|refine And.intro ?_ ?_|exact .inr rfl|trivial|exact .inr (bm rfl)|exact .inr dw));done
  ·omega
  ·(try simp only[]);omega)
 |(
  refine aa.ret ?_
  refine aN.is ?_;simp only[go_sem,aI,aH,aG,aK,aJ,aL]<;>((rw[ZD ha hx0 hcf hnop];simp[dW];done)))
 |(refine aa.ret ?_;refine bW.ret rfl ?_;simp only[go_sem,ha])
 |(refine aa.ret ?_;simp only[fZ,fU];refine bW.ret rfl ?_;simp only[go_sem,ha])
 |(refine al.of ?_;simp only[go_sem,ha])
 |((fail_if_success(have:=hbb));(with_reducible intro bb hbb))
 |(exfalso;omega)
 |refine aa.fin af ?_)
theorem Qn(g:Gt)(k:Nat)(w:Vn)(x:Ex)(hg:dn g)(hx0:g.an[k]?=some w)(ha:bQ g (k:Int)=true)(nb:Bk)(p:Nat)(hcf:bJ w.book x=(nb,1))(hop:x.kind=1∨x.kind=4)(hsn:gJ w.aF x=some p):ai E 85 [bK g,i64 (k:Int),ao x] (fun r t=>r= .ax [bK (dO g (k:Int) x).1,i64 (dO g (k:Int) x).2.1,i64 (dO g (k:Int) x).2.2]∧t=[]):=by
 have hgi:=hg.fit
 have hg1:=hg.1
 have hg2:=hg.2.1
 have hkn:=cz hx0
 have hw0:=hg.2.2 w (List.mem_of_getElem? hx0)
 have hil:=hw0.2.2.1
 have hix:=zP hsn
 have hpl:=X7 hsn
 have hwp:IntKind.i64.wrap ((p:Int)+1)=(p:Int)+1:=aM ab (by have:=hw0.2.2.2;omega)
 refine ai.aC (n:=104) (rs:=[.cell 6 55,.tmp 7,.tmp 8]) Tryz.func85 rfl Tryz.ntmps85 rfl ?_
 repeat'(first
 |(
  refine aa.jS hc1 ?_
  first
  |(refine aa.jE [0,1,2,3,4,6] aj rfl rfl ?_;simp only[go_sem,lh,List.length_map];refine aa.weaken ?_ (hc1 m);(try simp only[go_sem]);(repeat'(first|refine And.intro ?_ ?_|trivial|exact .inr (bm rfl)|exact .inr dw));done)
  |(have he:g.an=[]:=Classical.byContradiction fun hne=>by
     have:=hbb (by simpa using hne)
     simp_all
    refine aa.kK 3 0 8 _ rfl rfl ?_
    simp only[go_sem]
    refine aa.weaken ?_ (hc1 0);(try simp only[go_sem,he,List.length_nil,List.map_nil,kZ]);(repeat'(first|refine And.intro ?_ ?_|trivial|exact .inr (bm rfl)));done))
 |refine aa.ah fun K hK=>?_
 |(
  refine aa.here 1 5 5 rfl ?_
  first
  |(have h0:=hc1;clear h0;refine aa.aW ?_;refine al.at 5 2 rfl ?_;simp only[go_sem])
  |((fail_if_success(have h0:=hc1));refine aa.cutAt (ι:=Nat) [5,6,7,8] (fun(m:Nat)=>[]) (fun(m:Nat)=>[some [.agg [fe g.an,ct g.aY,bl g.kill,i64 g.now,i64 g.pat]],some [ao x],some [.agg [.aw,.aw,bl false,i64 0,i64 0]],some [.agg [.mu 5 8 0 g.an.length (g.an.length+m),ct g.aY,bl g.kill,i64 g.now,i64 g.pat]],some [.agg [.aw,.aw,bl false,i64 0,i64 0]],some (g.an.map aO++spare 8 m)]) (fun(m:Nat)=>[]) hK (fun m=>?_) (fun hc1=>?_)))
 |(refine Cut.mk ?_;simp only[go_sem])
 |(
  refine aa.here 4 21 5 rfl ?_
  have hxk:((g.an.map aO++spare 8 m).set k (nj w m2))[k]?=some (nj w m2):=List.getElem?_set_self (by simp;omega)
  have hxk2:∀z,(((g.an.map aO++spare 8 m).set k (nj w m2)).set k z)[k]?=some z:=fun z=>List.getElem?_set_self (by simp;omega)
  have hxk3:∀y z,((((g.an.map aO++spare 8 m).set k (nj w m2)).set k y).set k z)[k]?=some z:=fun y z=>List.getElem?_set_self (by simp;omega)
  refine aa.region ?_;simp only[go_sem,ha])
 |(
  refine aa.here 5 26 12 rfl ?_
  refine aa.bB [0,1,2,3,4,9,5,6,7,8,10,11] [11] ae ae rfl ?_;simp only[go_sem,ha,hxk])
 |(
  refine aa.here 20 78 5 rfl ?_
  refine aa.region ?_;simp only[go_sem,ha,hxk])
 |(
  refine aa.here 22 84 6 rfl ?_
  refine aa.region ?_;simp only[go_sem,ha,hxk2])
 |(
  refine aa.here 25 102 5 rfl ?_
  refine aa.VV 5 k 5 (jd:=6) (k:=8) (n:=w.aF.length-1) (cap:=w.aF.length+m2) ((w.aF.eraseIdx p).map bf++spare 8 (m2+1)) aj rfl (List.getElem?_set_self (by simp;omega)) rfl rfl (by simp[da,List.length_eraseIdx_of_lt hpl];try omega) (by rw[AY hpl];exact jq _) ?_
  rw[AY hpl]
  simp only[go_sem,ha]
  rw[Xx hkn]
  refine aa.eT 7 0 (jd:=5) (k:=8) (n:=g.an.length) (cap:=g.an.length+m) _ ((g.an.set k ⟨nb,w.aF.eraseIdx p,g.now,w.bp⟩).map aO++spare 8 m) aj rfl rfl rfl (by simp[da]) (by rw[gM];exact fm _) ?_
  rw[gM]
  simp only[go_sem,ha]
  refine aa.region ?_;simp only[go_sem,ha])
 |(
  refine aa.here 15 52 7 rfl ?_
  refine aa.na [[],[0],[0,1],[0,1,2],[],[0,1,2,3,4],[0,1,2,3,4,5]] [.ptr 5 k 0,.ptr 5 k 0,.ptr 5 k 5,.mu 6 8 0 w.aF.length (w.aF.length+m2),ao x,i64 (p:Int),i64 (p:Int)] [] (fun _=>[some [bK g],some [ao x],some [.agg [.aw,.aw,bl false,i64 0,i64 0]],some [.agg [.mu 5 8 0 g.an.length (g.an.length+m),ct g.aY,bl g.kill,i64 g.now,i64 g.pat]],some [.agg [.mu 5 8 0 g.an.length (g.an.length+m),ct g.aY,bl g.kill,i64 g.now,i64 g.pat]],some ((g.an.map aO++spare 8 m).set k (nj w m2)),some (w.aF.map bf++spare 8 m2),some [.agg [.mu 5 8 0 g.an.length (g.an.length+m),ct g.aY,bl g.kill,i64 g.now,i64 g.pat]],some [lD nb]]) ae ae rfl rfl rfl ?_ ?_ ?_
  ·intro i o ho hi s hg how htk hrs hr
   rcases i with _|i
   ·simp only[List.getElem?_toArray,List.getElem?_cons_zero,List.getElem?_cons_succ,Option.some.injEq] at ho;subst ho
    have e10:=(hr 10 aj).trans (rfl:_=(.ptr 5 k 0:AV))
    refine bc.list ?_
    simp only[go_sem,e10]
    (done)
   rcases i with _|i
   ·simp only[List.getElem?_toArray,List.getElem?_cons_zero,List.getElem?_cons_succ,Option.some.injEq] at ho;subst ho
    have e52:=(hr 52 aj).trans (rfl:_=(.ptr 5 k 0:AV))
    refine bc.list ?_
    simp only[go_sem,e52]
    (done)
   rcases i with _|i
   ·simp only[List.getElem?_toArray,List.getElem?_cons_zero,List.getElem?_cons_succ,Option.some.injEq] at ho;subst ho
    have e53:=(hr 53 aj).trans (rfl:_=(.ptr 5 k 0:AV))
    refine bc.list ?_
    simp only[go_sem,e53]
    (done)
   rcases i with _|i
   ·simp only[List.getElem?_toArray,List.getElem?_cons_zero,List.getElem?_cons_succ,Option.some.injEq] at ho;subst ho
    have e54:=(hr 54 aj).trans (rfl:_=(.ptr 5 k 5:AV))
    obtain⟨kq,hkq⟩:=how
    refine bc.list ?_
    simp only[go_sem,e54,hkq,hxk]
    (done)
   rcases i with _|i
   ·simp only[List.getElem?_toArray,List.getElem?_cons_zero,List.getElem?_cons_succ,Option.some.injEq] at ho;subst ho
    have e5:=(hr 5 aj).trans (rfl:_=(.ptr 1 0 0:AV))
    obtain⟨kq,hkq⟩:=how
    refine bc.list ?_
    simp only[go_sem,e5,hkq,hxk]
    (done)
   rcases i with _|i
   ·simp only[List.getElem?_toArray,List.getElem?_cons_zero,List.getElem?_cons_succ,Option.some.injEq] at ho;subst ho
    have e55:=(hr 55 aj).trans (rfl:_=(.mu 6 8 0 w.aF.length (w.aF.length+m2):AV))
    have e56:=(hr 56 aj).trans (rfl:_=(ao x:AV))
    obtain⟨tm,ow0,tk0,gl0,rsv0,up0⟩:=s
    obtain⟨kq,hkq⟩:=how
    simp only[] at hkq hrs htk hg
    subst hkq;subst hrs;subst htk;subst hg
    refine bc.list ?_
    simp only[go_sem,e55,e56]
    refine ak.ie (qJ w.aF x (by have:=hw0.2.2.2;omega)) ae rfl (.cons (.one (.jA rfl aB (jq _))) (.cons (.one (.clean rfl)) .nil)) ?_
    simp only[go_sem,hix]
    try simp
   rcases i with _|i
   ·simp only[List.getElem?_toArray,List.getElem?_cons_zero,List.getElem?_cons_succ,Option.some.injEq] at ho;subst ho
    have e57:=(hr 57 aj).trans (rfl:_=(i64 (p:Int):AV))
    refine bc.list ?_
    simp only[go_sem,e57]
    (done)
   ·exact absurd ho aB
  ·intro k i o hk ho s hg how htk hrs hup hpp hr
   ·exact absurd hk aB
  simp only[go_sem,Go.az.gj,Go.az.dstsOf,List.map_cons,List.map_nil])
 |(
  refine aa.here 24 91 12 rfl ?_
  refine aa.aW ?_
  refine al.at 12 8 rfl ?_
  simp only[go_sem,ha,hxk3,hwp]
  refine LQ (p:=p) (m:=m2) (l:=w.aF) rfl rfl (by push_cast;rfl) rfl hpl (by have:=hw0.2.2.2;omega) ?_
  simp only[go_sem,ha,hxk3]
  (try refine al.at 3 3 rfl ?_)
  (try simp only[go_sem,ha,hxk3])
  (try refine al.of ?_)
  (try simp only[go_sem]))
 |(
  refine aa.here 5 15 5 rfl ?_
  obtain⟨v,hx⟩:∃v,g.an[i]?=some v:=⟨_,List.getElem?_eq_getElem ab⟩
  have hv:=hg.2.2 v (List.mem_of_getElem? hx)
  have hx2:(g.an.map aO++spare 8 m)[i]?=some (aO v):=by rw[List.getElem?_append_left (by simpa using cz hx),List.getElem?_map,hx];rfl
  have hvw:i=k→v=w:=fun e=>by subst e;rw[hx] at hx0;exact Option.some.inj hx0
  (first|have hki:=mz hbk|(have hki:=mA hbk;have hx3:((g.an.map aO++spare 8 m).set k (nj w m2))[i]?=some (aO v):=(List.getElem?_set_ne ab).trans hx2))
  refine aa.region ?_;simp only[go_sem])
 |(
  refine aa.here 7 29 11 rfl ?_
  (first|rw[cL hx]|rw[gI ab hx])
  refine aa.region ?_;simp only[go_sem])
 |(
  refine aa.here 8 39 11 rfl ?_
  (first|rw[cL hx]|rw[gI ab hx])
  refine aa.region ?_;simp only[go_sem])
 |(
  refine aa.here 10 57 2 rfl ?_
  (first|rw[cL hx]|rw[gI ab hx]|skip)
  (try(obtain rfl:=hvw hik1;subst hik1))
  refine aa.region ?_;simp only[go_sem])
 |(
  refine aa.here 9 49 9 rfl ?_
  (first|rw[cL hx]|rw[gI ab hx])
  rcases Nat.decEq i k with hik0|hik1<;>(first|(exfalso;omega)|(refine aa.region ?_;simp only[go_sem])))
 |(
  refine aa.here 11 58 5 rfl ?_
  (first|(exfalso;have hki:=mz hbk;omega)|(have hki:=mA hbk;refine aa.region ?_;simp only[go_sem])))
 |(
  refine aa.here 3 5 4 rfl ?_
  refine aa.aW ?_
  refine al.kJ eM ?_
  simp only[go_sem]
  refine al.at 3 1 rfl ?_
  simp only[go_sem]
  refine al.ku kf eM rfl rfl rfl (by simp;omega) (by simp;omega) ?_
  intro m
  simp only[go_sem]
  refine al.of ?_
  simp only[go_sem])
 |(refine aa.here 1 14 4 rfl ?_;refine aa.aW ?_;refine al.at 4 1 rfl ?_;simp only[go_sem,ha])
 |(refine aa.region ?_;simp only[go_sem,ha])
 |(refine hK _ ?_;clear hK K)
 |refine aa.block ?_
 |refine aa.cond rfl (fun c=>?_) (fun c=>?_)<;>first|exact Bool.noConfusion c|(try simp only[dD] at c)
 |refine aa.skip ?_
 |(refine aa.exit ?_;simp only[go_sem,ha])
 |(refine ak.one (jv g (k:Int) hgi) ae rfl ?_;simp only[go_sem,ha])
 |(refine ak.one (qw w.book x hw0.1 hw0.2.1 hw0.2.2.1) ae rfl ?_;simp only[hcf];simp only[go_sem,ha])
 |(have h0:=hik1;clear h0;refine ak.take (om v.aF hv.2.2.2) ae rfl (.cons (.one (.clean rfl)) .nil) ?_;rintro r t ⟨rfl,rfl⟩;refine⟨0,8,_,rfl,by simp,tg _,fun m3=>?_⟩;simp only[go_sem,List.length_map])
 |(refine ak.one (eS v.book.aq hv.1) ae rfl ?_;simp only[go_sem])
 |(refine ak.one (eS v.aF hv.2.2.2) ae rfl ?_;simp only[go_sem])
 |(refine ak.one (ky v.book.av hv.2.1) ae rfl ?_;simp only[go_sem])
 |(refine ak.one (kX v.book.ids hv.2.2.1) ae rfl ?_;simp only[go_sem])
 |(refine ak.one (kH g.aY hg2) ae rfl ?_;simp only[go_sem])
 |(refine al.call (rs:=[.cell 2 55]) Tryz.func127 rfl Tryz.ntmps127 rfl ae rfl rfl ?_;simp only[go_sem])
 |(refine al.call (rs:=[.tmp 2]) Tryz.func78 rfl Tryz.ntmps78 rfl ae rfl rfl ?_;simp only[go_sem])
 |(refine aP.du (fun h=>?_) (fun h=>?_)<;>simp only[h,go_sem,ha]<;>(try simp only[dD] at h))
 |(refine aQ.ez af ?_;(try simp only[go_sem,ha]))
 |(refine aQ.gV af ?_;(try simp only[go_sem,ha]))
 |((with_reducible refine And.intro ?_ ?_);(focus(first|omega|(simp;done)));(try simp only[hb,go_sem,ha]))
 |(
  refine aa.here 3 13 1 rfl ?_
  refine aa.dT (ι:=Bool×Nat×Nat) [3,4,13,14,15,16,17,18,19,20,21,22,23,24,25,26,27,28,29,30,31,32,33,34,35,36,37,38,39,40,41,42,43,44,45,46,47,48,49,50,51,52,53,54,55,56,57] (fun⟨bk,i,m2⟩=>[(12,i64 i)]) (fun⟨bk,i,m2⟩=>[some [.agg [fe g.an,ct g.aY,bl g.kill,i64 g.now,i64 g.pat]],some [ao x],some [.agg [.aw,.aw,bl false,i64 0,i64 0]],some [.agg [.mu 5 8 0 g.an.length (g.an.length+m),ct g.aY,bl g.kill,i64 g.now,i64 g.pat]],some [.agg [.aw,.aw,bl false,i64 0,i64 0]],some (bif bk then((g.an.map aO++spare 8 m).set k (nj w m2)) else(g.an.map aO++spare 8 m))]++(bif bk then[some (w.aF.map bf++spare 8 m2)] else[])) (fun⟨bk,i,m2⟩=>([]:List Nat)) (fun⟨bk,i,m2⟩=>i≤g.an.length∧bk=decide (k<i)) (fun⟨bk,i,m2⟩=>g.an.length-i) ((false,0,0)) ?_ ?_ ?_
  ·(try simp only[go_sem]);(try simp only[cond_true,cond_false,List.cons_append,List.nil_append,List.append_nil,List.set_set]);(repeat'(first|exact .inr dw|refine And.intro ?_ ?_|trivial|exact .inr (bm rfl)));done
  ·exact⟨by omega,by simp⟩
  rintro⟨bk,i,m2⟩ ⟨h1,hbk⟩
  simp only[go_sem]
  cases bk<;>simp only[cond_true,cond_false,List.cons_append,List.nil_append,List.append_nil])
 |(
  refine⟨(false,i+1,m2),?_,?_,?_⟩
  ·(try simp only[go_sem]);(try rw[aM ab ab]);(try simp only[cond_true,cond_false,List.cons_append,List.nil_append,List.append_nil,List.set_set]);(repeat'(first|exact .inr dw|refine And.intro ?_ ?_|exact .inr rfl|trivial|exact .inr (bm rfl)|exact .inr ⟨by simp,by simp⟩));done
  ·(try dsimp only);(exact⟨by omega,sx ab⟩)
  ·(try simp only[]);omega)
 |(
  refine⟨(true,i+1,m3),?_,?_,?_⟩
  ·(try simp only[go_sem]);(try rw[aM ab ab]);(try simp only[cond_true,cond_false,List.cons_append,List.nil_append,List.append_nil,List.set_set]);(repeat'(first|exact .inr (xW aj)|exact .inr xU|refine And.intro ?_ ?_|exact .inr rfl|trivial|exact .inr (bm rfl)));done
  ·(try dsimp only);(exact⟨by omega,qA ab⟩)
  ·(try simp only[]);omega)
 |(
  refine⟨(true,i+1,m2),?_,?_,?_⟩
  ·(try simp only[go_sem]);(try rw[aM ab ab]);(try simp only[cond_true,cond_false,List.cons_append,List.nil_append,List.append_nil,List.set_set]);(repeat'(first|exact .inr (xW aj)|exact .inr xU|refine And.intro ?_ ?_|exact .inr rfl|trivial|exact .inr (bm rfl)));done
  ·(try dsimp only);(exact⟨by omega,qA ab⟩)
  ·(try simp only[]);omega)
 |(
  refine aa.ret ?_
  refine aN.is ?_;simp only[go_sem,aI,aH,aG,aK,aJ,aL]<;>(first|(rw[ZF ha hx0 hcf hop hsn];simp[dW];done)|skip))
 |(refine aa.ret ?_;refine bW.ret rfl ?_;simp only[go_sem,ha])
 |(refine aa.ret ?_;simp only[fZ,fU];refine bW.ret rfl ?_;simp only[go_sem,ha])
 |(refine al.of ?_;simp only[go_sem,ha])
 |((fail_if_success(have:=hbb));(with_reducible intro bb hbb))
 |(exfalso;omega)
 |refine aa.fin af ?_)
theorem Ql(g:Gt)(n:Int)(x:Ex)(hg:dn g):ai E 85 [bK g,i64 n,ao x] (fun r t=>r= .ax [bK (dO g n x).1,i64 (dO g n x).2.1,i64 (dO g n x).2.2]∧t=[]):=by
 cases ha:bQ g n with
 |false=>rw[CZ ha];exact Qo g n x hg ha
 |true=>
  obtain⟨k,w,rfl,hx⟩:=kD ha
  obtain⟨nb,kk,hcf⟩:∃nb kk,bJ w.book x=(nb,kk):=⟨_,_,rfl⟩
  by_cases h1:kk=1
  ·subst h1
   by_cases ho:x.kind=1∨x.kind=4
   ·cases hs:gJ w.aF x with
    |none=>exact zC g k w x hg hx ha nb 1 hcf (.inl rfl) ho hs
    |some p=>exact Qn g k w x hg hx ha nb p hcf ho hs
   ·exact Qm g k w x hg hx ha nb hcf ho
  ·by_cases h3:kk=3
   ·subst h3
    by_cases ho:x.kind=1∨x.kind=4
    ·cases hs:gJ w.aF x with
     |none=>exact zC g k w x hg hx ha nb 3 hcf (.inr rfl) ho hs
     |some p=>exact zD g k w x hg hx ha nb p hcf (fun _=>hs)
    ·exact zD g k w x hg hx ha nb 0 hcf (fun h=>absurd h ho)
   ·exact Qk g k w x hg hx ha nb kk hcf ⟨h1,h3⟩
end Go.Proofs.YthoonfpkfdjhiaaGreatDoor
end
section
namespace Go.az
open Go Go.RowKit
theorem al.Eh{E:Env}{Q:Exit→St→Prop}{st:St}{ops:Array Oper}{l:List Oper}{dst:Option Tmp}{t tx ty:TypeId}{x y:Operand}{pos:String}{after:Array Edge}{e:TypeId}{k n id m0:Nat}{es xs:List AV}
 (hx:er E.P tx=true) (hai:cP E.P t=some (e,k,n)) (hs:st.ev x= .mu id k 0 es.length (es.length+m0)) (hsrc:fE (st.ev y) k=some xs) (ho:st.own[id]?=some (some (es++spare k m0))) (h62:es.length+xs.length≤4611686018427387904) (hbt:(es.length+xs.length)*n≤140737488355328)
 (h:∀m,al E ops l Q (St.put { st with own:=st.own.set id none++[some (es++xs++spare k m)] } dst (.mu st.own.length k 0 (es.length+xs.length) (es.length+xs.length+m)))):al E ops (⟨dst,.call ⟨.builtin .append,#[x,y],#[t,tx]⟩,ty,pos,after,none⟩::l) Q st:=by
 intro w0 im0 cx a w h0 hG r
 refine wpList_step (fun K' hK'=>?_)
 have hw:Region.wanted ⟨dst,.call ⟨.builtin .append,#[x,y],#[t,tx]⟩,ty,pos,after,none⟩ (yielded ops a.tmps)=true:=rfl
 rw[if_pos hw]
 have hv:=r.ev x
 rw[hs] at hv
 have fin:∀(v':Value) (w':World) (c':Ctx) (m:Nat),(Builtin.append_ #[t,tx] ty #[a.eval x,a.eval y]).run E.P w= .ok v' w'→Rel w0 im0 c' { st with own:=st.own.set id none++[some (es++xs++spare k m)] } a w'→VR c' (.mu st.own.length k 0 (es.length+xs.length) (es.length+xs.length+m)) v'→
  Oper.wp E.P ⟨dst,.call ⟨.builtin .append,#[x,y],#[t,tx]⟩,ty,pos,after,none⟩ a w K' (fun e a' w'=>gN w0 im0 (Q e) a' w'):=fun v' w' c' m h1 h2 h3=>by
  refine eK (w':=w') (v:=v') ?_ (hK' _ _ (h m w0 im0 _ _ _ h0 hG (h2.put dst h3)))
  simp only[execOp,resolve,Sem.run_bind,Sem.run_pure,Result.andThen_ok,invoke,builtin,List.map_toArray,List.map_cons,List.map_nil,h1]
 by_cases hne:xs=[]
 ·subst hne
  obtain⟨hu,hss,hk0,i,zv,hi,hz,hsize,hbytes,hzs⟩:=gr hai
  obtain⟨news,hnl,hnc,hlen,hone,hfirst⟩:=oK (P:=E.P) r (r.ev y) hk0 hsrc
  have hnews:news=[]:=List.eq_nil_of_length_eq_zero (by simpa using hnl)
  subst hnews
  have hrun:∀base (N C:Nat),N≤C→a.eval x= .slice base N C→(Builtin.append_ #[t,tx] ty #[a.eval x,a.eval y]).run E.P w= .ok (a.eval x) w:=fun base N C hNC hb=>by
   rw[hb]
   have:=pT (P:=E.P) (w:=w) (ty:=ty) (base:=base) (n:=N) (cap:=C) hu hss hx (hlen w) (hfirst w (fun _ _=>rfl)) (by simpa using hNC)
   rw[this]
   cases base<;>simp[storeCells]
  rcases hv.cZ with⟨g,hb,hcap,he⟩|⟨hz1,hz2,he⟩
  ·obtain⟨hle,r2⟩:=r.vS hb ho
   refine fin _ w _ m0 (hrun _ _ _ ab he) (by simpa using r2) ?_
   rw[he]
   exact .mu (by show(cx.β++[_])[_]?=_;rw[←r.bU];simp) aB
  ·have hes:es=[]:=List.eq_nil_of_length_eq_zero hz1
   have hm0:m0=0:=by omega
   subst hes;subst hm0
   obtain⟨hle,r2⟩:=(r.mC id).rV
   exact fin _ w _ 0 (hrun _ _ _ (Nat.le_refl _) he) (by simpa[spare] using r2) (by rw[he];exact .jX)
 ·obtain⟨v',w',c',m,hr,hR,hV⟩:=uo (P:=E.P) (ty:=ty) r hx hai (r.ev y) hsrc hne (es:=es) (sp:=spare k m0) (by rw[da];exact hv) ho h62 hbt
  exact fin v' w' c' m hr (by simpa using hR) (by simpa using hV)
end Go.az
end
section
namespace Go.Proofs.YthoonfpkfdjhiaaGreatDoor
open Go Go.az Go.RowKit Go.Bk
theorem Vt(v u:Value)(w:World)(h:(Extern.SlicesOverlaps.overlaps #[53,53] #[4] #[v,u]).run E.P w= .ok (.bool false) w):(callFunc 212 #[v,u]).run E.P w= .ok (.value (.bool false)) w:=by
 show(callFunc 212 _).run Tryz.prog w=_
 rw[run_callFunc_extern Tryz.func212 ae ae ae (e:=Extern.SlicesOverlaps.overlaps #[53,53] #[4]) ae]
 have h:(Extern.SlicesOverlaps.overlaps #[53,53] #[4] #[v,u]).run Tryz.prog w= .ok (.bool false) w:=h
 rw[h];rfl
theorem qS(l:List Lm)(m:Nat):(l.map bD++spare 6 m).length=l.length+m:=by simp[da]
theorem Al(l:List Lm)(p:Nat):∀e∈(l.map bD).drop p,∀x∈e.leaves,x≠.any:=by
 intro e he x hx
 obtain⟨o,_,rfl⟩:=List.mem_map.1 (List.mem_of_mem_drop he)
 simp only[AV.leaves,List.mem_cons,List.not_mem_nil,or_false] at hx
 rcases hx with rfl|rfl|rfl|rfl|rfl|rfl<;>simp
theorem sR{l:List Lm}{p m:Nat}(hp:p≤l.length):((l.map bD++spare 6 m).drop p).take (l.length-p)=(l.map bD).drop p:=by
 rw[List.drop_append_of_le_length (by simp;omega),List.take_left' aB]
theorem tK(k m j:Nat):(spare k m).drop j=spare k (m-j):=by unfold spare;rw[List.drop_replicate]
def lO(l:List Lm)(x:Lm)(p m2:Nat):List AV:=(l.map bD).take p++([bD x]++(spare 6 (l.length+1-p+m2)).drop 1)
def mX(l:List Lm)(p m:Nat):List AV:=(l.map bD++spare 6 m).take (p+1)++((l.map bD).drop p++spare 6 (m-1))
def kQ(l:List Lm)(x:Lm)(p m:Nat):List AV:=(l.take p++x::l.drop p).map bD++spare 6 m
theorem Vp(l:List Lm)(x:Lm)(m:Nat):l.map bD++[bD x]++spare 6 m=kQ l x l.length m:=by unfold kQ;simp
theorem PE{l:List Lm}{x:Lm}{p m m2:Nat}(hp:p≤l.length):((l.map bD++spare 6 m).take p++spare 6 (l.length+1-p+m2)).take p++([bD x]++((l.map bD++spare 6 m).take p++spare 6 (l.length+1-p+m2)).drop (p+[bD x].length)) =
 lO l x p m2:=by
 unfold lO
 have e:(l.map bD++spare 6 m).take p=(l.map bD).take p:=List.take_append_of_le_length (by simp;omega)
 have hl:((l.map bD).take p).length=p:=by simp;omega
 rw[e,List.take_left' hl,List.length_singleton,←List.drop_drop,List.drop_left' hl]
theorem PD{l:List Lm}{x:Lm}{p m2:Nat}(hp:p≤l.length):(lO l x p m2).length=l.length+1+m2:=by
 unfold lO
 simp only[tK,List.length_append,List.length_take,List.length_map,List.length_singleton,da];omega
theorem Bh{l:List Lm}{x:Lm}{p:Nat}:(l.take p++x::l.drop p).map bD=(l.map bD).take p++([bD x]++(l.map bD).drop p):=by
 rw[List.map_append,List.map_cons,List.map_take,List.map_drop];rfl
theorem PF{l:List Lm}{x:Lm}{p m m2:Nat}(hp:p≤l.length):(lO l x p m2).take (p+1)++(((l.map bD++spare 6 m).drop p).take (l.length-p)++(lO l x p m2).drop (p+1+(l.length-p)))=kQ l x p m2:=by
 unfold lO kQ
 have hl:((l.map bD).take p++[bD x]).length=p+1:=by simp;omega
 rw[sR hp,←List.append_assoc ((l.map bD).take p) [bD x] _,List.take_left' hl,←List.drop_drop,List.drop_left' hl,Bh,tK,tK,show l.length+1-p+m2-1-(l.length-p)=m2 by omega]
 simp only[List.append_assoc]
theorem Wa{l:List Lm}{p m:Nat}(hp:p≤l.length)(hm:1≤m):(l.map bD++spare 6 m).take (p+1)++(((l.map bD++spare 6 m).drop p).take (l.length-p)++(l.map bD++spare 6 m).drop (p+1+(l.length-p)))=mX l p m:=by
 unfold mX
 rw[sR hp,show p+1+(l.length-p)=l.length+1 by omega,←List.drop_drop,List.drop_left' aB,tK]
theorem V9{l:List Lm}{p m:Nat}(hp:p≤l.length)(hm:1≤m):(mX l p m).length=l.length+m:=by
 unfold mX
 simp only[List.length_append,List.length_take,List.length_map,List.length_drop,da];omega
theorem Wd{l:List Lm}{x:Lm}{p m:Nat}(hp:p≤l.length)(hm:1≤m):(mX l p m).take p++([bD x]++(mX l p m).drop (p+[bD x].length))=kQ l x p (m-1):=by
 unfold mX kQ
 have hl:((l.map bD++spare 6 m).take (p+1)).length=p+1:=by simp[da];omega
 rw[List.length_singleton,List.drop_left' hl,List.take_append_of_le_length ab,List.take_take,Nat.min_eq_left ab,List.take_append_of_le_length (by simp;omega),Bh]
 simp only[List.append_assoc]
set_option maxRecDepth 100000 in
theorem QK{ops:Array Oper}{l0:List Oper}{Q:Exit→St→Prop}{tmps up:List AV}{gl:Nat→Option (List AV)}{own:List (Option (List AV))}{tk:List Nat}{dst:Option Tmp}{x0 x1 x2:Operand}{tys:Array TypeId}{ty:TypeId}{pos:String}{after:Array Edge}{id p m:Nat}{t0:Option Nat}{l:List Lm}{x:Lm}
 (hx0:St.ev ⟨tmps,own,tk,gl,none,up⟩ x0= .mu id 6 0 l.length (l.length+m)) (hx1:St.ev ⟨tmps,own,tk,gl,none,up⟩ x1=i64 (p:Int)) (hx2:St.ev ⟨tmps,own,tk,gl,none,up⟩ x2= .sl t0 6 [bD x]) (ho:own[id]?=some (some (l.map bD++spare 6 m))) (hp:p≤l.length) (hl:l.length≤1000)
 (h:∀(own':List (Option (List AV))) (id' m':Nat),own'[id']?=some (some (kQ l x p m'))→al E ops l0 Q (St.put ⟨tmps,own',tk,gl,none,up⟩ dst (.mu id' 6 0 (l.length+1) (l.length+1+m')))):
 al E ops (⟨dst,.call ⟨.value (.func 177),#[x0,x1,x2],tys⟩,ty,pos,after,none⟩::l0) Q ⟨tmps,own,tk,gl,none,up⟩:=by
 refine al.call (caps:=[]) (rs:=[.tmp 6]) Tryz.func177 rfl Tryz.ntmps177 rfl ae rfl rfl ?_
 show aa E _ _ ⟨([St.ev _ x0,St.ev _ x1,St.ev _ x2]++[])++List.replicate (95-3) (.v undef),own,tk,gl,none,tmps++up⟩
 rw[hx0,hx1,hx2]
 have hB0:∀(tm:List AV) (own':List (Option (List AV))) (id' m':Nat),tm[6]?=some (.mu id' 6 0 (l.length+1) (l.length+1+m'))→own'[id']?=some (some (kQ l x p m'))→bW E.P [.tmp 6] ⟨tmps,own,tk,gl,none,up⟩ (fun s z=>al E ops l0 Q (s.put dst z)) .ret ⟨tm,own',tk,gl,none,tmps++up⟩:=by
  intro tm own' id' m' hu ho'
  refine⟨rfl,?_⟩
  have gu:∀ow,St.ev ⟨tm,ow,tk,gl,none,tmps++up⟩ (.tmp 6)= .mu id' 6 0 (l.length+1) (l.length+1+m'):=fun ow=>by simp[St.ev,List.getD_eq_getElem?_getD,hu]
  show al E ops l0 Q (St.put _ dst (fB [St.ev _ (.tmp 6)]))
  rw[gu]
  exact h own' id' m' ho'
 generalize bW E.P [.tmp 6] ⟨tmps,own,tk,gl,none,up⟩ (fun s z=>al E ops l0 Q (s.put dst z))=Q' at hB0 ⊢
 generalize tmps++up=up' at hB0 ⊢
 clear h hx0 hx1 hx2
 have hset:∀x,(own.set id x)[id]?=some x:=fun x=>List.getElem?_set_self (bO ho)
 have hidl:id<own.length:=bO ho
 have hnew:∀x:Option (List AV),(own++[x])[own.length]?=some x:=fun x=>by simp
 have hnew2:∀x y:Option (List AV),(own++[x]).set own.length y=own++[y]:=fun x y=>by simp
 have hold:∀x:Option (List AV),(own++[x])[id]?=some (some (l.map bD++spare 6 m)):=fun x=>by rw[List.getElem?_append_left hidl];exact ho
 have h10:decide ((1:Int)=0)=false:=by decide
 have hw1:IntKind.i64.wrap ((l.length:Int)+1)=((l.length+1:Nat):Int):=by rw[aM ab ab];omega
 have hw2:IntKind.i64.wrap ((p:Int)+1)=((p+1:Nat):Int):=by rw[aM ab ab];omega
 have hw3:IntKind.i64.wrap (((l.length+1:Nat):Int)-p)=((l.length+1-p:Nat):Int):=by rw[aM ab ab];omega
 repeat'(first
 |refine aa.ah fun K hK=>?_
 |(
  refine aa.here 1 10 3 rfl ?_
  refine aa.aW ?_
  refine al.at 3 2 rfl ?_
  simp only[go_sem,h10,hset,hw1,hw2,hw3]
  (repeat(refine⟨⟨_,rfl⟩,?_⟩))
  refine al.XZ (e:=27) (k:=6) ae ae rfl rfl ab ?_
  refine al.of ?_
  (try simp only[go_sem,h10,hset,hw1,hw2,hw3]))
 |(
  refine aa.here 7 23 4 rfl ?_
  refine aa.aW ?_
  refine al.at 4 2 rfl ?_
  simp only[go_sem,h10,hset,hw1,hw2,hw3]
  (repeat(refine⟨⟨_,rfl⟩,?_⟩))
  refine al.Eh (es:=l.map bD) (xs:=[bD x]) (m0:=m) CG nB (by(rw[List.length_map];rfl)) rfl ho (by simp;omega) (by simp;omega) ?_
  intro m2
  rw[List.length_map]
  obtain rfl:p=l.length:=by omega
  rw[Vp]
  refine al.of ?_
  (try simp only[go_sem,h10,hset,hw1,hw2,hw3]))
 |(
  refine aa.here 8 26 6 rfl ?_
  refine aa.aW ?_
  refine al.at 6 4 rfl ?_
  simp only[go_sem,h10,hset,hw1,hw2,hw3]
  (repeat(refine⟨⟨_,rfl⟩,?_⟩))
  refine al.F8 (e:=27) ae rfl ?_
  refine al.of ?_
  (try simp only[go_sem,h10,hset,hw1,hw2,hw3]))
 |(
  refine aa.here 9 32 10 rfl ?_
  refine aa.aW ?_
  refine al.at 10 8 rfl ?_
  simp only[go_sem,h10,hset,hw1,hw2,hw3]
  (repeat(refine⟨⟨_,rfl⟩,?_⟩))
  have hm0:m=0:=by omega
  have hpl:p<l.length:=by omega
  refine⟨by omega,?_⟩
  refine al.P9 (kn:= .i64) (id:=id) (i:=p) (cap:=l.length+m) (es:=(l.map bD++spare 6 m)) (q:=l.length+1-p) nB ae rfl rfl ho ab (by rw[qS];omega) ab ab ab ab ?_
  intro m2
  rw[show p+(l.length+1-p)=l.length+1 by omega]
  refine al.of ?_
  (try simp only[go_sem,h10,hset,hw1,hw2,hw3]))
 |(
  refine aa.here 10 41 5 rfl ?_
  refine aa.aW ?_
  refine al.at 5 2 rfl ?_
  simp only[go_sem,h10,hset,hw1,hw2,hw3]
  (repeat(refine⟨⟨_,rfl⟩,?_⟩))
  refine al.ke (e:=27) (l:=p) (k:=6) ae ae rfl rfl ab ab ab ?_
  refine al.at 2 1 rfl ?_
  simp only[go_sem,h10,hset,hw1,hw2,hw3]
  (repeat(refine⟨⟨_,rfl⟩,?_⟩))
  refine al.qx (xs:=[bD x]) nB rfl rfl (hnew _) (by simp[da];omega) (by simp;omega) ab ?_
  rw[PE hp,hnew2]
  refine al.of ?_
  (try simp only[go_sem,h10,hset,hw1,hw2,hw3]))
 |(
  refine aa.here 11 46 9 rfl ?_
  refine aa.na [[],[],[],[1,2],[0,1,2,3],[],[],[5,6],[0,1,2,3,4,5,6,7]] [.mu own.length 6 0 (l.length+1) (l.length+1+m2),i64 (p:Int),i64 1,i64 ((p+1:Nat):Int),.mu own.length 6 (p+1) (l.length-p) (l.length+m2-p),.mu id 6 0 l.length (l.length+m),i64 (p:Int),.mu id 6 p (l.length-p) (l.length+m-p),i64 ((l.length-p:Nat):Int)] [8] (fun k=>[own++[some (lO l x p m2)],own++[some (kQ l x p m2)]].getD k []) ae ae rfl rfl rfl ?_ ?_ ?_
  ·intro i o ho hi s hg how htk hrs hr
   rcases i with _|i
   ·simp only[List.getElem?_toArray,List.getElem?_cons_zero,List.getElem?_cons_succ,Option.some.injEq] at ho;subst ho
    have e9:=(hr 9 aj).trans (rfl:_=(.mu own.length 6 0 (l.length+1) (l.length+1+m2):AV))
    refine bc.list ?_
    simp only[go_sem,e9]
    (done)
   rcases i with _|i
   ·simp only[List.getElem?_toArray,List.getElem?_cons_zero,List.getElem?_cons_succ,Option.some.injEq] at ho;subst ho
    have e1:=(hr 1 aj).trans (rfl:_=(i64 (p:Int):AV))
    refine bc.list ?_
    simp only[go_sem,e1]
    (done)
   rcases i with _|i
   ·simp only[List.getElem?_toArray,List.getElem?_cons_zero,List.getElem?_cons_succ,Option.some.injEq] at ho;subst ho
    have e7:=(hr 7 aj).trans (rfl:_=(i64 1:AV))
    refine bc.list ?_
    simp only[go_sem,e7]
    (done)
   rcases i with _|i
   ·simp only[List.getElem?_toArray,List.getElem?_cons_zero,List.getElem?_cons_succ,Option.some.injEq] at ho;subst ho
    have e47:=(hr 47 aj).trans (rfl:_=(i64 (p:Int):AV))
    have e48:=(hr 48 aj).trans (rfl:_=(i64 1:AV))
    refine bc.list ?_
    simp only[go_sem,e47,e48,hw2]
   rcases i with _|i
   ·simp only[List.getElem?_toArray,List.getElem?_cons_zero,List.getElem?_cons_succ,Option.some.injEq] at ho;subst ho
    have e46:=(hr 46 aj).trans (rfl:_=(.mu own.length 6 0 (l.length+1) (l.length+1+m2):AV))
    have e49:=(hr 49 aj).trans (rfl:_=(i64 ((p+1:Nat):Int):AV))
    refine bc.call fun Q hQ=>?_
    refine al.ke (e:=27) (l:=p+1) (k:=6) (off:=0) (len:=l.length+1) (cap:=l.length+1+m2) ae ae e46 e49 ab ab ab ?_
    rw[Nat.zero_add,show l.length+1-(p+1)=l.length-p by omega,show l.length+1+m2-(p+1)=l.length+m2-p by omega]
    exact hQ
   rcases i with _|i
   ·simp only[List.getElem?_toArray,List.getElem?_cons_zero,List.getElem?_cons_succ,Option.some.injEq] at ho;subst ho
    have e0:=(hr 0 aj).trans (rfl:_=(.mu id 6 0 l.length (l.length+m):AV))
    refine bc.list ?_
    simp only[go_sem,e0]
    (done)
   rcases i with _|i
   ·simp only[List.getElem?_toArray,List.getElem?_cons_zero,List.getElem?_cons_succ,Option.some.injEq] at ho;subst ho
    have e1:=(hr 1 aj).trans (rfl:_=(i64 (p:Int):AV))
    refine bc.list ?_
    simp only[go_sem,e1]
    (done)
   rcases i with _|i
   ·simp only[List.getElem?_toArray,List.getElem?_cons_zero,List.getElem?_cons_succ,Option.some.injEq] at ho;subst ho
    have e51:=(hr 51 aj).trans (rfl:_=(.mu id 6 0 l.length (l.length+m):AV))
    have e52:=(hr 52 aj).trans (rfl:_=(i64 (p:Int):AV))
    refine bc.call fun Q hQ=>?_
    refine al.ke (e:=27) (l:=p) (k:=6) (off:=0) (len:=l.length) (cap:=l.length+m) ae ae e51 e52 ab ab ab ?_
    rw[Nat.zero_add,show l.length-p=l.length-p by omega,show l.length+m-p=l.length+m-p by omega]
    exact hQ
   rcases i with _|i
   ·exact absurd aj hi
   ·exact absurd ho aB
  ·intro k i o hk ho s hg how htk hrs hup hpp hr
   rcases k with _|k
   ·obtain rfl:=Option.some.inj hk
    simp only[List.getElem?_toArray,List.getElem?_cons_zero,List.getElem?_cons_succ,Option.some.injEq] at ho;subst ho
    have e50:=(hr 50 aj).trans (rfl:_=(.mu own.length 6 (p+1) (l.length-p) (l.length+m2-p):AV))
    have e53:=(hr 53 aj).trans (rfl:_=(.mu id 6 p (l.length-p) (l.length+m-p):AV))
    clear hr
    obtain⟨tm,ow0,tk0,gl0,rsv0,up0⟩:=s
    simp only[] at hg how htk hrs hup hpp;subst hg;subst how;subst htk;subst hrs;subst hup
    refine bc.call fun Q hQ=>?_
    refine al.yr (l.length-p) (es:=lO l x p m2) (es2:=(l.map bD++spare 6 m)) nB (by exact e50) (by exact e53) (hnew _) (hold _) (Nat.min_self _) (by rw[PD hp];omega) (by rw[qS];omega) ab ab (by rw[sR hp];exact Al l p) ?_
    rw[PF hp]
    simp only[List.getD_cons_zero,hnew2]
    exact hQ
   ·exact absurd hk aB
  simp only[go_sem,Go.az.gj,Go.az.dstsOf,List.map_cons,List.map_nil])
 |(
  refine aa.here 13 56 6 rfl ?_
  refine aa.aW ?_
  refine al.at 6 4 rfl ?_
  simp only[go_sem,h10,hset,hw1,hw2,hw3]
  (repeat(refine⟨⟨_,rfl⟩,?_⟩))
  refine al.XY (e:=27) (h':=l.length+1) (k:=6) ae ae rfl rfl (by simp_all<;>omega) (by simp_all<;>omega) ?_
  refine al.of ?_
  (try simp only[go_sem,h10,hset,hw1,hw2,hw3]))
 |(
  refine aa.here 14 61 8 rfl ?_
  refine aa.aW ?_
  refine al.at 8 5 rfl ?_
  simp only[go_sem,h10,hset,hw1,hw2,hw3]
  (repeat(refine⟨⟨_,rfl⟩,?_⟩))
  refine al.ke (e:=27) (l:=p+1) (k:=6) ae ae rfl rfl ab ab ab ?_
  refine al.Vq (e:=27) (k:=6) (t:=53) (tR:=4) Vt ae ae aj rfl rfl ho aB ab (by rw[qS];omega) ?_
  refine al.of ?_
  (try simp only[go_sem,h10,hset,hw1,hw2,hw3]))
 |(
  refine aa.here 15 69 9 rfl ?_
  have hm1:1≤m:=by omega
  have hpl:p<l.length:=by omega
  refine aa.na [[],[],[],[1,2],[0,1,2,3],[],[],[5,6],[0,1,2,3,4,5,6,7]] [.mu id 6 0 (l.length+1) (l.length+m),i64 (p:Int),i64 1,i64 ((p+1:Nat):Int),.mu id 6 (p+1) (l.length-p) (l.length+m-(p+1)),.mu id 6 0 (l.length+1) (l.length+m),i64 (p:Int),.mu id 6 p (l.length+1-p) (l.length+m-p),i64 ((l.length-p:Nat):Int)] [8] (fun k=>[own,own.set id (some (mX l p m))].getD k []) ae ae rfl rfl rfl ?_ ?_ ?_
  ·intro i o ho hi s hg how htk hrs hr
   rcases i with _|i
   ·simp only[List.getElem?_toArray,List.getElem?_cons_zero,List.getElem?_cons_succ,Option.some.injEq] at ho;subst ho
    have e0:=(hr 0 aj).trans (rfl:_=(.mu id 6 0 (l.length+1) (l.length+m):AV))
    refine bc.list ?_
    simp only[go_sem,e0]
    (done)
   rcases i with _|i
   ·simp only[List.getElem?_toArray,List.getElem?_cons_zero,List.getElem?_cons_succ,Option.some.injEq] at ho;subst ho
    have e1:=(hr 1 aj).trans (rfl:_=(i64 (p:Int):AV))
    refine bc.list ?_
    simp only[go_sem,e1]
    (done)
   rcases i with _|i
   ·simp only[List.getElem?_toArray,List.getElem?_cons_zero,List.getElem?_cons_succ,Option.some.injEq] at ho;subst ho
    have e7:=(hr 7 aj).trans (rfl:_=(i64 1:AV))
    refine bc.list ?_
    simp only[go_sem,e7]
    (done)
   rcases i with _|i
   ·simp only[List.getElem?_toArray,List.getElem?_cons_zero,List.getElem?_cons_succ,Option.some.injEq] at ho;subst ho
    have e70:=(hr 70 aj).trans (rfl:_=(i64 (p:Int):AV))
    have e71:=(hr 71 aj).trans (rfl:_=(i64 1:AV))
    refine bc.list ?_
    simp only[go_sem,e70,e71,hw2]
   rcases i with _|i
   ·simp only[List.getElem?_toArray,List.getElem?_cons_zero,List.getElem?_cons_succ,Option.some.injEq] at ho;subst ho
    have e69:=(hr 69 aj).trans (rfl:_=(.mu id 6 0 (l.length+1) (l.length+m):AV))
    have e72:=(hr 72 aj).trans (rfl:_=(i64 ((p+1:Nat):Int):AV))
    refine bc.call fun Q hQ=>?_
    refine al.ke (e:=27) (l:=p+1) (k:=6) (off:=0) (len:=l.length+1) (cap:=l.length+m) ae ae e69 e72 ab ab ab ?_
    rw[Nat.zero_add,show l.length+1-(p+1)=l.length-p by omega,show l.length+m-(p+1)=l.length+m-(p+1) by omega]
    exact hQ
   rcases i with _|i
   ·simp only[List.getElem?_toArray,List.getElem?_cons_zero,List.getElem?_cons_succ,Option.some.injEq] at ho;subst ho
    have e0:=(hr 0 aj).trans (rfl:_=(.mu id 6 0 (l.length+1) (l.length+m):AV))
    refine bc.list ?_
    simp only[go_sem,e0]
    (done)
   rcases i with _|i
   ·simp only[List.getElem?_toArray,List.getElem?_cons_zero,List.getElem?_cons_succ,Option.some.injEq] at ho;subst ho
    have e1:=(hr 1 aj).trans (rfl:_=(i64 (p:Int):AV))
    refine bc.list ?_
    simp only[go_sem,e1]
    (done)
   rcases i with _|i
   ·simp only[List.getElem?_toArray,List.getElem?_cons_zero,List.getElem?_cons_succ,Option.some.injEq] at ho;subst ho
    have e74:=(hr 74 aj).trans (rfl:_=(.mu id 6 0 (l.length+1) (l.length+m):AV))
    have e75:=(hr 75 aj).trans (rfl:_=(i64 (p:Int):AV))
    refine bc.call fun Q hQ=>?_
    refine al.ke (e:=27) (l:=p) (k:=6) (off:=0) (len:=l.length+1) (cap:=l.length+m) ae ae e74 e75 ab ab ab ?_
    rw[Nat.zero_add,show l.length+1-p=l.length+1-p by omega,show l.length+m-p=l.length+m-p by omega]
    exact hQ
   rcases i with _|i
   ·exact absurd aj hi
   ·exact absurd ho aB
  ·intro k i o hk ho s hg how htk hrs hup hpp hr
   rcases k with _|k
   ·obtain rfl:=Option.some.inj hk
    simp only[List.getElem?_toArray,List.getElem?_cons_zero,List.getElem?_cons_succ,Option.some.injEq] at ho;subst ho
    have e73:=(hr 73 aj).trans (rfl:_=(.mu id 6 (p+1) (l.length-p) (l.length+m-(p+1)):AV))
    have e76:=(hr 76 aj).trans (rfl:_=(.mu id 6 p (l.length+1-p) (l.length+m-p):AV))
    clear hr
    obtain⟨tm,ow0,tk0,gl0,rsv0,up0⟩:=s
    simp only[] at hg how htk hrs hup hpp;subst hg;subst how;subst htk;subst hrs;subst hup
    refine bc.call fun Q hQ=>?_
    refine al.yr (l.length-p) (es:=(l.map bD++spare 6 m)) (es2:=(l.map bD++spare 6 m)) nB (by exact e73) (by exact e76) ho ho (Nat.min_eq_right ab) (by rw[qS];omega) (by rw[qS];omega) ab ab (by rw[sR hp];exact Al l p) ?_
    rw[Wa hp hm1]
    exact hQ
   ·exact absurd hk aB
  simp only[go_sem,Go.az.gj,Go.az.dstsOf,List.map_cons,List.map_nil])
 |(
  refine aa.here 16 78 5 rfl ?_
  have hm1:1≤m:=by omega
  refine aa.aW ?_
  refine al.at 5 2 rfl ?_
  simp only[go_sem,h10,hset,hw1,hw2,hw3]
  (repeat(refine⟨⟨_,rfl⟩,?_⟩))
  refine al.ke (e:=27) (l:=p) (k:=6) ae ae rfl rfl ab ab ab ?_
  refine al.at 2 1 rfl ?_
  simp only[go_sem,h10,hset,hw1,hw2,hw3]
  (repeat(refine⟨⟨_,rfl⟩,?_⟩))
  refine al.qx (xs:=[bD x]) nB rfl rfl (hset _) (by rw[V9 hp hm1];omega) (by simp;omega) ab ?_
  rw[Wd hp hm1,List.set_set]
  refine al.of ?_
  (try simp only[go_sem,h10,hset,hw1,hw2,hw3]))
 |(refine aa.region ?_;simp only[go_sem,h10,hset,hw1,hw2,hw3])
 |(refine hK _ ?_;clear hK K)
 |refine aa.cond rfl (fun c=>?_) (fun c=>?_)<;>first|exact Bool.noConfusion c|(try simp only[dD] at c)
 |refine aa.skip ?_
 |((with_reducible refine And.intro ?_ ?_);(focus((simp;done)));(try simp only[hb,go_sem,h10,hset,hw1,hw2,hw3]))
 |(
  refine aa.ret ?_
  (try simp only[fZ,fU])
  exact hB0 _ _ _ _ rfl aB)
 |(
  refine aa.ret ?_
  (try simp only[fZ,fU])
  exact hB0 _ _ _ (m-1) (by rw[show l.length+1+(m-1)=l.length+m by omega];rfl) (hset _)))
end Go.Proofs.YthoonfpkfdjhiaaGreatDoor
end
