/- Texts of one chain, put together (G12, G13, Lw, Ls, G14, G15, G16, G17, G18, MrB, MrC). -/
import Derived.Test.YtajeeghgiilhiaaGreatKwK
import Derived.Test.YtajeeghgiilhiaaGreatKwM
import Derived.Test.YtajeeghgiilhiaaGreatKwJ
import Derived.Test.YtajeeghgiilhiaaGreatKwL
set_option linter.unusedVariables false
set_option linter.unusedSimpArgs false
set_option maxHeartbeats 16000000
set_option maxRecDepth 8000
section
namespace Go.Proofs.YtajeeghgiilhiaaGreat
open Go Go.Abs Go.RowKit Go.Bk
theorem xV(l:List Od)(m:Nat):(l.map aW++spare 8 m).length=l.length+m:=by simp[cA]
theorem erase_eq{l:List Od}{p:Nat}(hp:p<l.length):l.eraseIdx p=l.take p++l.drop (p+1):=List.eraseIdx_eq_take_drop_succ ..
theorem B2{l:List Od}{p:Nat}(hp:p<l.length)(m:Nat):(l.map aW++spare 8 m).take p++(((l.map aW++spare 8 m).drop (p+1)).take (l.length-(p+1))++(l.map aW++spare 8 m).drop (p+(l.length-(p+1))))=(l.eraseIdx p).map aW++(l.map aW++spare 8 m).drop (l.length-1):=by
 rw[show p+(l.length-(p+1))=l.length-1 by omega,←List.append_assoc]
 congr 1
 rw[List.take_append_of_le_length (by simp;omega),List.drop_append_of_le_length (by simp;omega),List.take_left' (by simp),erase_eq hp,List.map_append,List.map_take,List.map_drop]
theorem HO{l:List Od}{p:Nat}(hp:p<l.length)(m:Nat)(h:l.length-(p+1)=0):(l.map aW++spare 8 m).take p++(((l.map aW++spare 8 m).drop 0).take (l.length-(p+1))++(l.map aW++spare 8 m).drop (p+(l.length-(p+1))))=(l.eraseIdx p).map aW++(l.map aW++spare 8 m).drop (l.length-1):=by
 rw[←B2 hp m,h];simp
theorem Qa{l:List Od}{p:Nat}(hp:p<l.length)(m:Nat):∀e∈((l.map aW++spare 8 m).drop (p+1)).take (l.length-(p+1)),∀x∈e.leaves,x≠.any:=by
 intro e he x hx
 rw[List.drop_append_of_le_length (by simp;omega),List.take_left' (by simp)] at he
 obtain⟨o,_,rfl⟩:=List.mem_map.1 (List.mem_of_mem_drop he)
 simp only[AV.leaves,List.mem_cons,List.not_mem_nil,or_false] at hx
 rcases hx with rfl|rfl|rfl|rfl|rfl|rfl|rfl|rfl<;>simp
theorem Hp{l:List Od}{p:Nat}(hp:p<l.length)(m:Nat):spare 8 ((l.map aW++spare 8 m).drop (l.length-1)).length=spare 8 (m+1):=by
 congr 1;rw[List.length_drop,xV];omega
theorem En{l:List Od}{p id cap:Nat}(hp:p<l.length){x:AV}(h:x= .mu id 8 (l.length-1) (l.length-(l.length-1)) cap):x= .mu id 8 ((l.eraseIdx p).map aW).length (0+1) cap:=by
 rw[h];congr 1
 ·rw[List.length_map,List.length_eraseIdx_of_lt hp]
 ·omega
set_option maxRecDepth 100000 in
theorem Ht{ops:Array Oper}{l0:List Oper}{Q:Exit→St→Prop}{tmps up:List AV}{gl:Nat→Option (List AV)}{own:List (Option (List AV))}{tk:List Nat}{dst:Option Tmp}{x0 x1 x2:Operand}{tys:Array TypeId}{ty:TypeId}{pos:String}{after:Array Edge}{id p m:Nat}{l:List Od}
 (hx0:St.ev ⟨tmps,own,tk,gl,none,up⟩ x0= .mu id 8 0 l.length (l.length+m)) (hx1:St.ev ⟨tmps,own,tk,gl,none,up⟩ x1=i64 (p:Int)) (hx2:St.ev ⟨tmps,own,tk,gl,none,up⟩ x2=i64 ((p+1:Nat):Int)) (ho:own[id]?=some (some (l.map aW++spare 8 m))) (hp:p<l.length) (hl:l.length≤1000000)
 (h:aj E ops l0 Q (St.put ⟨tmps,own.set id (some ((l.eraseIdx p).map aW++spare 8 (m+1))),tk,gl,none,up⟩ dst (.mu id 8 0 (l.length-1) (l.length+m)))):
 aj E ops (⟨dst,.call ⟨.value (.func 83),#[x0,x1,x2],tys⟩,ty,pos,after,none⟩::l0) Q ⟨tmps,own,tk,gl,none,up⟩:=by
 refine aj.call (caps:=[]) (rs:=[.tmp 6]) Tryz.func83 rfl Tryz.ntmps83 rfl (by kernel_rfl) rfl rfl ?_
 show aa E _ _ ⟨([St.ev _ x0,St.ev _ x1,St.ev _ x2]++[])++List.replicate (33-3) (.v undef),own,tk,gl,none,tmps++up⟩
 rw[hx0,hx1,hx2]
 have hB0:∀(tm:List AV),tm[6]?=some (.mu id 8 0 (l.length-1) (l.length+m))→bG E.P [.tmp 6] ⟨tmps,own,tk,gl,none,up⟩ (fun s z=>aj E ops l0 Q (s.put dst z)) .ret ⟨tm,own.set id (some ((l.eraseIdx p).map aW++spare 8 (m+1))),tk,gl,none,tmps++up⟩:=by
  intro tm hu
  refine⟨rfl,?_⟩
  have gu:∀ow,St.ev ⟨tm,ow,tk,gl,none,tmps++up⟩ (.tmp 6)= .mu id 8 0 (l.length-1) (l.length+m):=fun ow=>by simp[St.ev,List.getD_eq_getElem?_getD,hu]
  show aj E ops l0 Q (St.put _ dst (gI [St.ev _ (.tmp 6)]))
  rw[gu]
  exact h
 generalize bG E.P [.tmp 6] ⟨tmps,own,tk,gl,none,up⟩ (fun s z=>aj E ops l0 Q (s.put dst z))=Q' at hB0 ⊢
 generalize tmps++up=up' at hB0 ⊢
 clear h hx0 hx1 hx2
 have hset:∀x,(own.set id x)[id]?=some x:=fun x=>List.getElem?_set_self (bE ho)
 have hrl:=xV l m
 have hnp:decide ((p:Int)=((p+1:Nat):Int))=false:=decide_eq_false (by omega)
 have hE:=B2 hp m
 repeat'(first
 |refine aa.ab fun K hK=>?_
 |(
  refine aa.here 1 8 6 rfl ?_
  refine aa.bq ?_
  refine aj.at 6 5 rfl ?_
  simp only[go_sem,hnp,hset]
  (repeat(refine⟨⟨_,rfl⟩,?_⟩))
  refine aj.C5 (e:=65) (l':=p) (h':=p+1) (m':=l.length) (k:=8) (by kernel_rfl) (by kernel_rfl) (by rfl) (by rfl) (by rfl) (by rfl) (by omega) (by omega) (by omega) ?_
  refine aj.of ?_
  (try simp only[go_sem,hnp,hset]))
 |(
  refine aa.here 5 20 8 rfl ?_
  rcases Nat.lt_or_ge (p+1) (l.length+m) with hlt|hlt
  refine aa.pc [[],[],[0,1],[],[],[3,4],[0,1,2,3,4,5],[0,1,2,3,4,5,6]] [.mu id 8 0 l.length (l.length+m),i64 (p:Int),.mu id 8 0 p (l.length+m),.mu id 8 0 l.length (l.length+m),i64 ((p+1:Nat):Int),.mu id 8 (p+1) (l.length-(p+1)) (l.length+m-(p+1)),.mu id 8 0 (l.length-1) (l.length+m),.mu id 8 0 (l.length-1) (l.length+m)] [6] (fun k=>[own,own.set id (some ((l.eraseIdx p).map aW++((l.map aW++spare 8 m).drop (l.length-1))))].getD k []) (by kernel_rfl) (by kernel_rfl) rfl rfl rfl ?_ ?_ ?_
  ·intro i o ho hi s hg how htk hrs hr
   rcases i with _|i
   ·simp only[List.getElem?_toArray,List.getElem?_cons_zero,List.getElem?_cons_succ,Option.some.injEq] at ho;subst ho
    have e0:=(hr 0 (by decide)).trans (rfl:_=(.mu id 8 0 l.length (l.length+m):AV))
    refine b8.list ?_
    simp only[go_sem,e0]
    (done)
   rcases i with _|i
   ·simp only[List.getElem?_toArray,List.getElem?_cons_zero,List.getElem?_cons_succ,Option.some.injEq] at ho;subst ho
    have e1:=(hr 1 (by decide)).trans (rfl:_=(i64 (p:Int):AV))
    refine b8.list ?_
    simp only[go_sem,e1]
    (done)
   rcases i with _|i
   ·simp only[List.getElem?_toArray,List.getElem?_cons_zero,List.getElem?_cons_succ,Option.some.injEq] at ho;subst ho
    have e20:=(hr 20 (by decide)).trans (rfl:_=(.mu id 8 0 l.length (l.length+m):AV))
    have e21:=(hr 21 (by decide)).trans (rfl:_=(i64 (p:Int):AV))
    refine b8.list ?_
    simp only[go_sem,e20,e21]
    omega
   rcases i with _|i
   ·simp only[List.getElem?_toArray,List.getElem?_cons_zero,List.getElem?_cons_succ,Option.some.injEq] at ho;subst ho
    have e0:=(hr 0 (by decide)).trans (rfl:_=(.mu id 8 0 l.length (l.length+m):AV))
    refine b8.list ?_
    simp only[go_sem,e0]
    (done)
   rcases i with _|i
   ·simp only[List.getElem?_toArray,List.getElem?_cons_zero,List.getElem?_cons_succ,Option.some.injEq] at ho;subst ho
    have e2:=(hr 2 (by decide)).trans (rfl:_=(i64 ((p+1:Nat):Int):AV))
    refine b8.list ?_
    simp only[go_sem,e2]
    (done)
   rcases i with _|i
   ·simp only[List.getElem?_toArray,List.getElem?_cons_zero,List.getElem?_cons_succ,Option.some.injEq] at ho;subst ho
    have e23:=(hr 23 (by decide)).trans (rfl:_=(.mu id 8 0 l.length (l.length+m):AV))
    have e24:=(hr 24 (by decide)).trans (rfl:_=(i64 ((p+1:Nat):Int):AV))
    refine b8.call fun Q hQ=>?_
    refine aj.j0 (e:=65) (l:=p+1) (k:=8) (off:=0) (len:=l.length) (cap:=l.length+m) (by kernel_rfl) (by kernel_rfl) e23 e24 (by omega) hlt (by omega) ?_
    rw[Nat.zero_add]
    exact hQ
   rcases i with _|i
   ·exact absurd (by decide) hi
   rcases i with _|i
   ·simp only[List.getElem?_toArray,List.getElem?_cons_zero,List.getElem?_cons_succ,Option.some.injEq] at ho;subst ho
    have e26:=(hr 26 (by decide)).trans (rfl:_=(.mu id 8 0 (l.length-1) (l.length+m):AV))
    refine b8.list ?_
    simp only[go_sem,e26]
    (done)
   ·exact absurd ho (by simp)
  ·intro k i o hk ho s hg how htk hrs hup hpp hr
   rcases k with _|k
   ·obtain rfl:=Option.some.inj hk
    simp only[List.getElem?_toArray,List.getElem?_cons_zero,List.getElem?_cons_succ,Option.some.injEq] at ho;subst ho
    have e22:=(hr 22 (by decide)).trans (rfl:_=(.mu id 8 0 p (l.length+m):AV))
    have e25:=(hr 25 (by decide)).trans (rfl:_=(.mu id 8 (p+1) (l.length-(p+1)) (l.length+m-(p+1)):AV))
    clear hr
    obtain⟨tm,ow0,tk0,gl0,rsv0,up0⟩:=s
    simp only[] at hg how htk hrs hup hpp;subst hg;subst how;subst htk;subst hrs;subst hup
    refine b8.call fun Q hQ=>?_
    have hE2:=hE
    refine aj.wO (es:=(l.map aW++spare 8 m)) (i:=p) (o:=(p+1)) (j:=l.length-(p+1)) u4 o9 (by rw[hrl];exact e22) (by exact e25) ho (by rw[hrl];omega) (by rw[hrl];omega) (by rw[hrl];omega) (Qa hp m) ?_
    rw[hE2,show p+(l.length-(p+1))=l.length-1 by omega]
    (try rw[hrl])
    exact hQ
   ·exact absurd hk (by simp)
  simp only[go_sem,Go.Abs.gY,Go.Abs.dstsOf,List.map_cons,List.map_nil]
  rotate_left
  refine aa.pc [[],[],[0,1],[],[],[3,4],[0,1,2,3,4,5],[0,1,2,3,4,5,6]] [.mu id 8 0 l.length (l.length+m),i64 (p:Int),.mu id 8 0 p (l.length+m),.mu id 8 0 l.length (l.length+m),i64 ((p+1:Nat):Int),.mu id 8 0 (l.length-(p+1)) 0,.mu id 8 0 (l.length-1) (l.length+m),.mu id 8 0 (l.length-1) (l.length+m)] [6] (fun k=>[own,own.set id (some ((l.eraseIdx p).map aW++((l.map aW++spare 8 m).drop (l.length-1))))].getD k []) (by kernel_rfl) (by kernel_rfl) rfl rfl rfl ?_ ?_ ?_
  ·intro i o ho hi s hg how htk hrs hr
   rcases i with _|i
   ·simp only[List.getElem?_toArray,List.getElem?_cons_zero,List.getElem?_cons_succ,Option.some.injEq] at ho;subst ho
    have e0:=(hr 0 (by decide)).trans (rfl:_=(.mu id 8 0 l.length (l.length+m):AV))
    refine b8.list ?_
    simp only[go_sem,e0]
    (done)
   rcases i with _|i
   ·simp only[List.getElem?_toArray,List.getElem?_cons_zero,List.getElem?_cons_succ,Option.some.injEq] at ho;subst ho
    have e1:=(hr 1 (by decide)).trans (rfl:_=(i64 (p:Int):AV))
    refine b8.list ?_
    simp only[go_sem,e1]
    (done)
   rcases i with _|i
   ·simp only[List.getElem?_toArray,List.getElem?_cons_zero,List.getElem?_cons_succ,Option.some.injEq] at ho;subst ho
    have e20:=(hr 20 (by decide)).trans (rfl:_=(.mu id 8 0 l.length (l.length+m):AV))
    have e21:=(hr 21 (by decide)).trans (rfl:_=(i64 (p:Int):AV))
    refine b8.list ?_
    simp only[go_sem,e20,e21]
    omega
   rcases i with _|i
   ·simp only[List.getElem?_toArray,List.getElem?_cons_zero,List.getElem?_cons_succ,Option.some.injEq] at ho;subst ho
    have e0:=(hr 0 (by decide)).trans (rfl:_=(.mu id 8 0 l.length (l.length+m):AV))
    refine b8.list ?_
    simp only[go_sem,e0]
    (done)
   rcases i with _|i
   ·simp only[List.getElem?_toArray,List.getElem?_cons_zero,List.getElem?_cons_succ,Option.some.injEq] at ho;subst ho
    have e2:=(hr 2 (by decide)).trans (rfl:_=(i64 ((p+1:Nat):Int):AV))
    refine b8.list ?_
    simp only[go_sem,e2]
    (done)
   rcases i with _|i
   ·simp only[List.getElem?_toArray,List.getElem?_cons_zero,List.getElem?_cons_succ,Option.some.injEq] at ho;subst ho
    have e23:=(hr 23 (by decide)).trans (rfl:_=(.mu id 8 0 l.length (l.length+m):AV))
    have e24:=(hr 24 (by decide)).trans (rfl:_=(i64 ((p+1:Nat):Int):AV))
    refine b8.call fun Q hQ=>?_
    refine aj.Ts (e:=65) (k:=8) (off:=0) (cap:=l.length+m) (by kernel_rfl) (by kernel_rfl) (by rw[show l.length+m=l.length by omega] at e23;rw[show l.length+m=l.length by omega];exact e23) (by rw[show l.length+m=p+1 by omega];exact e24) (by omega) ?_
    rw[show l.length-(p+1)=0 by omega] at hQ
    exact hQ
   rcases i with _|i
   ·exact absurd (by decide) hi
   rcases i with _|i
   ·simp only[List.getElem?_toArray,List.getElem?_cons_zero,List.getElem?_cons_succ,Option.some.injEq] at ho;subst ho
    have e26:=(hr 26 (by decide)).trans (rfl:_=(.mu id 8 0 (l.length-1) (l.length+m):AV))
    refine b8.list ?_
    simp only[go_sem,e26]
    (done)
   ·exact absurd ho (by simp)
  ·intro k i o hk ho s hg how htk hrs hup hpp hr
   rcases k with _|k
   ·obtain rfl:=Option.some.inj hk
    simp only[List.getElem?_toArray,List.getElem?_cons_zero,List.getElem?_cons_succ,Option.some.injEq] at ho;subst ho
    have e22:=(hr 22 (by decide)).trans (rfl:_=(.mu id 8 0 p (l.length+m):AV))
    have e25:=(hr 25 (by decide)).trans (rfl:_=(.mu id 8 0 (l.length-(p+1)) 0:AV))
    clear hr
    obtain⟨tm,ow0,tk0,gl0,rsv0,up0⟩:=s
    simp only[] at hg how htk hrs hup hpp;subst hg;subst how;subst htk;subst hrs;subst hup
    refine b8.call fun Q hQ=>?_
    have hE2:=hE
    refine aj.wO (es:=(l.map aW++spare 8 m)) (i:=p) (o:=0) (j:=l.length-(p+1)) u4 o9 (by rw[hrl];exact e22) (by exact e25) ho (by rw[hrl];omega) (by rw[hrl];omega) (by rw[hrl];omega) (by rw[show l.length-(p+1)=0 by omega];intro e he;simp at he) ?_
    rw[HO hp m (by omega),show p+(l.length-(p+1))=l.length-1 by omega]
    (try rw[hrl])
    exact hQ
   ·exact absurd hk (by simp)
  simp only[go_sem,Go.Abs.gY,Go.Abs.dstsOf,List.map_cons,List.map_nil])
 |(
  refine aa.here 6 27 6 rfl ?_
  refine aa.bq ?_
  refine aj.at 6 4 rfl ?_
  simp only[go_sem,hnp,hset]
  (repeat(refine⟨⟨_,rfl⟩,?_⟩))
  refine aj.QB (e:=65) (l':=l.length-1) (h':=l.length) (k:=8) (off:=0) (by kernel_rfl) (by kernel_rfl) (by rfl) (by rfl) (by rfl) (by omega) (by omega) (by omega) ?_
  simp only[go_sem,hnp,hset]
  refine aj.xm (e:=65) (k:=8) (n:=88) (len:=0) (A:=(l.eraseIdx p).map aW) (B:=(l.map aW++spare 8 m).drop (l.length-1)) o9 (by kernel_rfl) (En hp (by rfl)) (hset _) (by rw[List.length_drop,hrl];omega) ?_
  rw[Hp hp m]
  refine aj.of ?_
  (try simp only[go_sem,hnp,hset]))
 |(refine aa.region ?_;simp only[go_sem,hnp,hset])
 |(refine hK _ ?_;clear hK K)
 |refine aa.cond rfl (fun c=>?_) (fun c=>?_)<;>first|exact Bool.noConfusion c|(try simp only[dD] at c)
 |refine aa.skip ?_
 |((with_reducible refine And.intro ?_ ?_);(focus((simp;done)));(try simp only[hb,go_sem,hnp,hset]))
 |(
  refine aa.ret ?_
  (try simp only[fU,fJ])
  (try rw[List.set_set])
  exact hB0 _ rfl))
theorem Cm(x:Ex):∀z∈(an x).leaves,z.dL=some z:=by
 intro z hz
 simp only[AV.leaves,List.mem_cons,List.not_mem_nil,or_false] at hz
 rcases hz with rfl|rfl|rfl|rfl|rfl|rfl|rfl|rfl|rfl|rfl<;>rfl
theorem UJ(o:Od)(x:Ex):ae E 155 [aW o,.bR [str x.id,str x.ref,str x.ord,str x.acc,str x.sym,i64 x.kind,bl x.au,i64 x.al,i64 x.aw,i64 x.time]] (fun r t=>r=bl (gL x o)∧t=[]):=by
 refine ae.av (n:=54) (rs:=[.tmp 3]) Tryz.func155 rfl Tryz.ntmps155 rfl ?_
 repeat'(first
 |refine aa.ab fun K hK=>?_
 |(refine aa.region ?_;simp only[go_sem])
 |(refine hK _ ?_;clear hK K)
 |(refine aH.bY (fun h=>?_) (fun h=>?_)<;>simp only[h,go_sem]<;>(try simp only[dD] at h))
 |(refine aH.split (fun h=>?_) (fun h=>?_)<;>simp only[h,go_sem]<;>(try simp only[dD] at h))
 |(
  refine aa.ret ?_
  refine az.is ?_;simp only[go_sem,aB,aE,aF,aA,aC,aD]<;>(simp[gL, *];done)))
theorem GB(l:List Od)(x:Ex)(hl:l.length≤9223372036854775807):ae E 154 [aR l,.fn 155 [.bR [str x.id,str x.ref,str x.ord,str x.acc,str x.sym,i64 x.kind,bl x.au,i64 x.al,i64 x.aw,i64 x.time]]] (fun r t=>r=i64 (fp (fun o:Od=>gL x o) l)∧t=[]):=by
 refine ae.av (n:=19) (rs:=[.tmp 4]) Tryz.func154 rfl Tryz.ntmps154 rfl ?_
 repeat'(first
 |refine aa.ab fun K hK=>?_
 |(refine aa.region ?_;simp only[go_sem])
 |(refine hK _ ?_;clear hK K)
 |refine aa.block ?_
 |refine aa.cond rfl (fun c=>?_) (fun c=>?_)<;>(try simp only[dD] at c)
 |refine aa.skip ?_
 |(refine aa.exit ?_;simp only[go_sem])
 |(refine ah.one (UJ _ _) (by kernel_rfl) rfl ?_;simp only[go_sem])
 |((first|refine aG.nth ?_ (fun b hb=>?_)|with_reducible refine And.intro ?_ ?_);(focus(first|omega|(simp;done)));(try simp only[hb,go_sem]))
 |(
  refine aa.here 2 9 1 rfl ?_
  refine aa.cr (ι:=Nat) [4,5,9,10,11,12,13,14,15,16,17,18] (fun(i:Nat)=>[(8,i64 i)]) (fun(i:Nat)=>i≤l.length∧(l.take i).all (fun o:Od=>!(gL x o))=true) (fun(i:Nat)=>l.length-i) (0) ?_ ?_ ?_
  ·(try simp only[go_sem]);(repeat'(first|fail));done
  ·exact⟨by omega,by simp⟩
  rintro i ⟨h1,h2⟩
  simp only[go_sem])
 |(
  refine⟨i+1,?_,?_,?_⟩
  ·(try simp only[go_sem]);(try rw[aq (by omega) (by omega)]);(repeat'(exact .inr rfl));done
  ·exact⟨by omega,lj hb h2 (by simp_all)⟩
  ·(try simp only[]);omega)
 |(
  refine aa.ret ?_
  refine az.is ?_;simp only[go_sem,aB,aE,aF,aA,aC,aD]<;>(first|(rw[uI hb (by simp_all) h2];done)|(rw[tD (by omega) h2];done)))
 |refine aa.fin (by assumption) ?_)
theorem om(l:List Od)(x:Ex)(hl:l.length≤9223372036854775807):ae E 82 [aR l,an x] (fun r t=>r=i64 (fp (fun o:Od=>gL x o) l)∧t=[]):=by
 refine ae.av (n:=8) (rs:=[.tmp 4]) Tryz.func82 rfl Tryz.ntmps82 rfl ?_
 repeat'(first
 |refine aa.ab fun K hK=>?_
 |(refine aa.region ?_;simp only[go_sem])
 |(refine hK _ ?_;clear hK K)
 |(refine ah.gS (GB l x hl) (by kernel_rfl) rfl (.cons (.one (.clean rfl)) (.cons (.fn (.cons (.ptr (e:=an x) rfl (Cm x)) .nil)) .nil)) ?_;simp only[go_sem])
 |(
  refine aa.ret ?_
  refine az.is ?_;simp only[go_sem,aB,aE,aF,aA,aC,aD]<;>rfl))
end Go.Proofs.YtajeeghgiilhiaaGreat
end
section
namespace Go.Abs
open Go Go.RowKit
theorem aa.DR{E:Env}{c:Code}{Q:Exit→St→Prop}{s:St}(id idx j:Nat){jd k n cap:Nat}{rs cs:List AV}(es:List AV)(hne:jd≠id)(ho:s.own[id]?=some (some rs))(he:rs[idx]?=some (.agg cs))(hx:cs[j]?=some (.mu jd k 0 n cap))(ho2:s.own[jd]?=some (some es))(hn:n≤es.length)(hc:∀e∈es.take n,∀x∈e.leaves,x.dL=some x)
 (hw:aa E c Q { s with own:=(s.own.set jd none).set id (some (rs.set idx (.agg (cs.set j (.sl none k (es.take n)))))) }):aa E c Q s:=by
 intro w0 im0 cx a w h0 hG r
 have hlen:(es.take n).length=n:=by rw[List.length_take];omega
 have key:∃c',cx.le c'∧Rel w0 im0 c' { s with own:=s.own.set jd none } a w∧∀v,VR c' (.mu jd k 0 n cap) v→VR c' (.sl none k (es.take n)) v:=by
  cases hb:cx.β[jd]? with
  |none=>exact⟨cx,.refl _,r.lz jd,fun v hv=>by
    rcases hv.cP with⟨g,hb',_,_⟩|⟨rfl,rfl,rfl⟩
    ·rw[hb] at hb';simp at hb'
    ·rw[List.take_zero];exact .base (.de k none 0)⟩
  |some p=>
   cases p with
   |none=>exact⟨cx,.refl _,r.lz jd,fun v hv=>by
     rcases hv.cP with⟨g,hb',_,_⟩|⟨rfl,rfl,rfl⟩
     ·rw[hb] at hb';simp at hb'
     ·rw[List.take_zero];exact .base (.de k none 0)⟩
   |some p=>
    obtain⟨g,k'⟩:=p
    obtain⟨c',hle,hβ,_,_,r',cv,hl,hm,h1,hvr⟩:=r.qM (n:=n) hb ho2 rfl hc
    refine⟨c',hle,r',fun v hv=>?_⟩
    rcases hv.cP with⟨g',hb',hcap,rfl⟩|⟨rfl,rfl,rfl⟩
    ·rw[hβ,hb] at hb'
     simp only[Option.some.injEq,Prod.mk.injEq] at hb'
     obtain⟨rfl,rfl⟩:=hb'
     have:=a8.sl (im:=c'.im) k' (es.take n) g 0 cap cv (by omega) hl (fun i e j x he hj=>by rw[Nat.zero_add];exact hm i e j x he hj) h1 hvr
     rw[hlen] at this
     rw[Nat.zero_mul];exact .base this
    ·rw[List.take_zero];exact .base (.de k none 0)
 obtain⟨c',hle,r',hv⟩:=key
 have hown:(s.own.set jd none)[id]?=some (some rs):=by rw[List.getElem?_set_ne hne];exact ho
 have r2:=r'.BS (y:= .sl none k (es.take n)) hown he hx (by simp) hv
 exact hw w0 im0 c' a w h0 hG r2
section
variable{E:Env}{ops:Array Oper}{anc:List (List Nat)}{cs:List Nat}{ow:Nat→List (Option (List AV))}{vals:List AV}{st:St}
end
end Go.Abs
end
section
namespace Go.Proofs.YtajeeghgiilhiaaGreat
open Go Go.Abs Go.RowKit Go.Bk
theorem yH{g:Gt}{k:Nat}{x:Ex}{v:Vn}{nb:Bk}{kk:Int}(h:ba g (k:Int)=true)(hx:g.ak[k]?=some v)(hc:aY v.book x=(nb,kk))(hk:kk=2∨kk=4):cj g (k:Int) x=(g,kk,0):=by
 rw[mv h hx,hc,if_pos hk]
theorem zb{g:Gt}{k:Nat}{x:Ex}{v:Vn}{nb:Bk}{kk:Int}(h:ba g (k:Int)=true)(hx:g.ak[k]?=some v)(hc:aY v.book x=(nb,kk))(hk:¬(kk=2∨kk=4)∧¬(kk=1∨kk=3)):cj g (k:Int) x=(g,0,1):=by
 rw[mv h hx,hc,if_neg hk.1,if_neg hk.2]
abbrev nU(v:Vn):AV:= .agg [aR v.book.af,bZ v.book.ai,.sl (some 0) 1 (v.book.ids.map str),i64 v.book.clock,i64 v.book.bad,aR v.ar,i64 v.last,bl v.br]
theorem Pf{no nt m k:Nat}{l:List Vn}{v:Vn}(h:0<nt):∀es,some ((l.map aN++spare 8 m).set k (nU v))=some es→∀e∈es,∀z∈e.leaves,z.bF no nt=true:=by
 intro es he e hm z hz
 simp only[Option.some.injEq] at he
 subst he
 rcases List.mem_or_eq_of_mem_set hm with hm|rfl
 ·exact dC (no:=no) (nt:=nt) (m:=m) (l:=l) _ rfl e hm z hz
 ·simp only[AV.leaves,List.mem_cons,List.not_mem_nil,or_false] at hz
  rcases hz with rfl|rfl|rfl|rfl|rfl|rfl|rfl|rfl<;>first|rfl|exact decide_eq_true h
theorem RD{l:List Od}{x:Ex}(h:eB l x=none):fp (gL x) l= -1:=by
 unfold eB at h;unfold fp;rw[h]
theorem xh{l:List Od}{x:Ex}{p:Nat}(h:eB l x=some p):fp (gL x) l=(p:Int):=by
 unfold eB at h;unfold fp;rw[h]
theorem tc{x:Ex}(h:x.kind=1∨x.kind=4):jt x=true:=by unfold jt;rcases h with h|h<;>rw[h]<;>rfl
theorem wK{g:Gt}{k:Nat}{x:Ex}{v:Vn}{nb:Bk}{kk:Int}(h:ba g (k:Int)=true)(hx:g.ak[k]?=some v)(hc:aY v.book x=(nb,kk))(hk:kk=1∨kk=3)(ho:x.kind=1∨x.kind=4)(hs:eB v.ar x=none):cj g (k:Int) x=(cf g k (iM v x),3,0):=by
 rw[mv h hx,hc,if_neg (by simp only;omega),if_pos hk]
 simp only[kG,tc ho,if_true,hs]
theorem V0{l:List Vn}{k m:Nat}{w:Vn}{x:Ex}{a b c:AV}(h:k<l.length):(((((l.map aN++spare 8 m).set k a).set k b).set k c).set k (.agg [aR w.book.af,bZ w.book.ai,.sl none 1 (w.book.ids.map str++[str x.id]),i64 w.book.clock,i64 2,aR w.ar,i64 w.last,bl w.br]))=(l.set k (iM w x)).map aN++spare 8 m:=by
 rw[List.set_set,List.set_set,List.set_set,←lE (v:=iM w x) h]
 congr 1
 simp[iM]
theorem Du{l:List Od}{x:Ex}{p:Nat}(h:(x.kind=1∨x.kind=4)→eB l x=some p):(x.kind=1∨x.kind=4)→fp (gL x) l=(p:Int):=fun q=>xh (h q)
theorem xu{g:Gt}{k:Nat}{x:Ex}{v:Vn}{nb:Bk}{p:Nat}(h:ba g (k:Int)=true)(hx:g.ak[k]?=some v)(hc:aY v.book x=(nb,3))(hs:(x.kind=1∨x.kind=4)→eB v.ar x=some p):cj g (k:Int) x=(cf g k ⟨nb,v.ar,v.last,v.br⟩,3,0):=by
 rw[mv h hx,hc,if_neg (by simp),if_pos (by simp)]
 simp only[kG]
 by_cases ho:x.kind=1∨x.kind=4
 ·simp only[tc ho,if_true,hs ho];rfl
 ·have:jt x=false:=by unfold jt;simp only[not_or] at ho;simp[ho]
  simp only[this];rfl
theorem Bz{g:Gt}{k:Nat}{x:Ex}{v:Vn}{nb:Bk}(h:ba g (k:Int)=true)(hx:g.ak[k]?=some v)(hc:aY v.book x=(nb,1))(ho:¬(x.kind=1∨x.kind=4)):cj g (k:Int) x=(cf g k ⟨nb,v.ar,g.now,v.br⟩,1,0):=by
 rw[mv h hx,hc,if_neg (by simp),if_pos (by simp)]
 have:jt x=false:=by unfold jt;simp only[not_or] at ho;simp[ho]
 simp only[kG,this];rfl
abbrev lf(v:Vn)(m2:Nat):AV:= .agg [aR v.book.af,bZ v.book.ai,.sl none 1 (v.book.ids.map str),i64 v.book.clock,i64 v.book.bad,.mu 6 8 0 v.ar.length (v.ar.length+m2),i64 v.last,bl v.br]
theorem xF{no nt m m2 k:Nat}{l:List Vn}{v:Vn}(h2:6<no):∀es,some ((l.map aN++spare 8 m).set k (lf v m2))=some es→∀e∈es,∀z∈e.leaves,z.bF no nt=true:=by
 intro es he e hm z hz
 simp only[Option.some.injEq] at he
 subst he
 rcases List.mem_or_eq_of_mem_set hm with hm|rfl
 ·exact dC (no:=no) (nt:=nt) (m:=m) (l:=l) _ rfl e hm z hz
 ·simp only[AV.leaves,List.mem_cons,List.not_mem_nil,or_false] at hz
  rcases hz with rfl|rfl|rfl|rfl|rfl|rfl|rfl|rfl<;>first|rfl|exact decide_eq_true h2
theorem xT{no nt m:Nat}{l:List Od}:∀es,some (l.map aW++spare 8 m)=some es→∀e∈es,∀z∈e.leaves,z.bF no nt=true:=lO fun x z hz=>by
 simp only[AV.leaves,List.mem_cons,List.not_mem_nil,or_false] at hz
 rcases hz with rfl|rfl|rfl|rfl|rfl|rfl|rfl|rfl<;>rfl
theorem zX{l:List Od}{p m:Nat}(h:p<l.length):((l.eraseIdx p).map aW++spare 8 m).take (l.length-1)=(l.eraseIdx p).map aW:=List.take_left' (by rw[List.length_map,List.length_eraseIdx_of_lt h])
theorem Ip{l:List Od}{x:Ex}{p:Nat}(h:eB l x=some p):p<l.length:=by
 unfold eB at h
 obtain⟨h1,_⟩:=List.findIdx?_eq_some_iff_findIdx_eq.1 h
 exact h1
theorem vJ{g:Gt}{k:Nat}{x:Ex}{v:Vn}{nb:Bk}{p:Nat}(h:ba g (k:Int)=true)(hx:g.ak[k]?=some v)(hc:aY v.book x=(nb,1))(ho:x.kind=1∨x.kind=4)(hs:eB v.ar x=some p):cj g (k:Int) x=(cf g k ⟨nb,v.ar.eraseIdx p,g.now,v.br⟩,1,0):=by
 rw[mv h hx,hc,if_neg (by simp),if_pos (by simp)]
 simp only[kG,tc ho,if_true,hs]
theorem S3{l:List Vn}{k m p:Nat}{w:Vn}{nb:Bk}{now:Int}{a b c d:AV}(h:k<l.length):((((((l.map aN++spare 8 m).set k a).set k b).set k c).set k d).set k (.agg [aR nb.af,bZ nb.ai,.sl none 1 (nb.ids.map str),i64 nb.clock,i64 nb.bad,.sl none 8 ((w.ar.eraseIdx p).map aW),i64 now,bl w.br]))=(l.set k ⟨nb,w.ar.eraseIdx p,now,w.br⟩).map aN++spare 8 m:=by
 rw[List.set_set,List.set_set,List.set_set,List.set_set,←lE (v:=⟨nb,w.ar.eraseIdx p,now,w.br⟩) h]
theorem Kj(g:Gt)(n:Int)(x:Ex)(hg:bO g)(ha:ba g n=false):ae E 30 [aL g,i64 n,an x] (fun r t=>r= .ax [aL g,i64 0,i64 1]∧t=[]):=by
 have hgi:=hg.fit
 refine ae.av (n:=104) (rs:=[.cell 6 58,.tmp 7,.tmp 8]) Tryz.func30 rfl Tryz.ntmps30 rfl ?_
 repeat'(first
 |refine aa.ab fun K hK=>?_
 |(refine aa.region ?_;simp only[go_sem,ha])
 |(refine hK _ ?_;clear hK K)
 |refine aa.cond rfl (fun c=>?_) (fun c=>?_)<;>first|exact Bool.noConfusion c|(try simp only[dD] at c)
 |(refine ah.one (lU g hg) (by kernel_rfl) rfl ?_;simp only[go_sem,ha])
 |(refine ah.one (iW g n hgi) (by kernel_rfl) rfl ?_;simp only[go_sem,ha])
 |(
  refine aa.ret ?_
  refine az.is ?_;simp only[go_sem,aB,aE,aF,aA,aC,aD]<;>(first|fail)))
theorem Rg(g:Gt)(k:Nat)(w:Vn)(x:Ex)(hg:bO g)(hx0:g.ak[k]?=some w)(ha:ba g (k:Int)=true)(nb:Bk)(kk:Int)(hcf:aY w.book x=(nb,kk))(hkk:¬kk=1∧¬kk=3):ae E 30 [aL g,i64 (k:Int),an x] (fun r t=>r= .ax [aL (cj g (k:Int) x).1,i64 (cj g (k:Int) x).2.1,i64 (cj g (k:Int) x).2.2]∧t=[]):=by
 have hgi:=hg.fit
 have hg1:=hg.1
 have hg2:=hg.2.1
 have hkn:=bI hx0
 have hw0:=hg.2.2 w (List.mem_of_getElem? hx0)
 have hil:=hw0.2.2.1
 have hgk:(g.ak.map aN)[k]?=some (aN w):=by rw[List.getElem?_map,hx0];rfl
 refine ae.av (n:=104) (rs:=[.cell 6 58,.tmp 7,.tmp 8]) Tryz.func30 rfl Tryz.ntmps30 rfl ?_
 repeat'(first
 |refine aa.ab fun K hK=>?_
 |(refine aa.region ?_;simp only[go_sem,ha,hgk])
 |(refine aa.here 5 26 12 rfl ?_;refine aa.bc [0,1,2,3,4,9,5,6,7,8,10,11] [11] (by kernel_rfl) (by kernel_rfl) rfl ?_;simp only[go_sem,ha,hgk])
 |(refine aa.here 15 52 7 rfl ?_;refine aa.bc [0,1,2,3,4,5,6] [] (by kernel_rfl) (by kernel_rfl) rfl ?_;simp only[go_sem,ha,hgk])
 |(refine aa.here 17 60 14 rfl ?_;refine aa.gD (.take 0 (.take 1 (.take 2 (.take 3 (.take 4 (.take 5 (.take 6 (.take 7 (.take 8 (.take 9 (.take 10 (.take 11 (.take 12 (.take 13 .done)))))))))))))) [[],[],[1],[1,2],[1,2,3],[1,2,3,4],[],[6],[6,7],[1,2,3,4,5,6,7,8],[0,1,2,3,4,5,6,7,8,9],[0,1,2,3,4,5,6,7,8,9,10],[0,1,2,3,4,5,6,7,8,9,10,11],[0,1,2,3,4,5,6,7,8,9,10,11,12]] [] (by kernel_rfl) (by kernel_rfl) ?_;simp only[go_sem,ha,hgk])
 |(refine hK _ ?_;clear hK K)
 |refine aa.block ?_
 |refine aa.cond rfl (fun c=>?_) (fun c=>?_)<;>first|exact Bool.noConfusion c|(try simp only[dD] at c)
 |refine aa.skip ?_
 |(refine ah.one (lU g hg) (by kernel_rfl) rfl ?_;simp only[go_sem,ha,hgk])
 |(refine ah.one (iW g (k:Int) hgi) (by kernel_rfl) rfl ?_;simp only[go_sem,ha,hgk])
 |(refine ah.one (oT w.book x hw0.1 hw0.2.1 hw0.2.2.1) (by kernel_rfl) rfl ?_;simp only[hcf];simp only[go_sem,ha,hgk])
 |(refine ah.one (om _ _ (by(omega))) (by kernel_rfl) rfl ?_;simp only[go_sem,ha,hgk])
 |(refine aH.bY (fun h=>?_) (fun h=>?_)<;>simp only[h,go_sem,ha,hgk]<;>(try simp only[dD] at h))
 |(
  refine aa.ret ?_
  refine az.is ?_;simp only[go_sem,aB,aE,aF,aA,aC,aD]<;>(first|(rw[yH ha hx0 hcf (by omega)];simp;done)|(rw[zb ha hx0 hcf (by omega)];simp;done)))
 |(exfalso;omega))
theorem wW(g:Gt)(k:Nat)(w:Vn)(x:Ex)(hg:bO g)(hx0:g.ak[k]?=some w)(ha:ba g (k:Int)=true)(nb:Bk)(kk:Int)(hcf:aY w.book x=(nb,kk))(hkk:kk=1∨kk=3)(hop:x.kind=1∨x.kind=4)(hsn:eB w.ar x=none):ae E 30 [aL g,i64 (k:Int),an x] (fun r t=>r= .ax [aL (cj g (k:Int) x).1,i64 (cj g (k:Int) x).2.1,i64 (cj g (k:Int) x).2.2]∧t=[]):=by
 have hgi:=hg.fit
 have hg1:=hg.1
 have hg2:=hg.2.1
 have hkn:=bI hx0
 have hw0:=hg.2.2 w (List.mem_of_getElem? hx0)
 have hil:=hw0.2.2.1
 have hix:=RD hsn
 refine ae.av (n:=104) (rs:=[.cell 6 58,.tmp 7,.tmp 8]) Tryz.func30 rfl Tryz.ntmps30 rfl ?_
 repeat'(first
 |(
  refine aa.jJ hc1 ?_
  first
  |(refine aa.ik [0,1,2,3,4,6] (by decide) rfl rfl ?_;simp only[go_sem,kI,List.length_map];refine aa.weaken ?_ (hc1 m);(try simp only[go_sem]);(repeat'(first|refine And.intro ?_ ?_|trivial|exact .inr (aM rfl)|exact .inr dC));done)
  |(have he:g.ak=[]:=Classical.byContradiction fun hne=>by
     have:=hbb (by simpa using hne)
     simp_all
    refine aa.kg 3 0 8 _ rfl rfl ?_
    simp only[go_sem]
    refine aa.weaken ?_ (hc1 0);(try simp only[go_sem,he,List.length_nil,List.map_nil,kS]);(repeat'(first|refine And.intro ?_ ?_|trivial|exact .inr (aM rfl)));done))
 |refine aa.ab fun K hK=>?_
 |(
  refine aa.here 1 5 5 rfl ?_
  first
  |(have h0:=hc1;clear h0;refine aa.bq ?_;refine aj.at 5 2 rfl ?_;simp only[go_sem])
  |((fail_if_success(have h0:=hc1));refine aa.cutAt (ι:=Nat) [5,6,7,8] (fun(m:Nat)=>[]) (fun(m:Nat)=>[some [.agg [eD g.ak,bL g.aP,bl g.kill,i64 g.now,i64 g.pat]],some [an x],some [.agg [.aK,.aK,bl false,i64 0,i64 0]],some [.agg [.mu 5 8 0 g.ak.length (g.ak.length+m),bL g.aP,bl g.kill,i64 g.now,i64 g.pat]],some [.agg [.aK,.aK,bl false,i64 0,i64 0]],some (g.ak.map aN++spare 8 m)]) (fun(m:Nat)=>[]) hK (fun m=>?_) (fun hc1=>?_)))
 |(refine Cut.mk ?_;simp only[go_sem])
 |(
  refine aa.here 4 21 5 rfl ?_
  have hxk:((g.ak.map aN++spare 8 m).set k (nU w))[k]?=some (nU w):=List.getElem?_set_self (by simp;omega)
  have hxk2:∀z,(((g.ak.map aN++spare 8 m).set k (nU w)).set k z)[k]?=some z:=fun z=>List.getElem?_set_self (by simp;omega)
  refine aa.region ?_;simp only[go_sem,ha])
 |(
  refine aa.here 5 26 12 rfl ?_
  refine aa.bc [0,1,2,3,4,9,5,6,7,8,10,11] [11] (by kernel_rfl) (by kernel_rfl) rfl ?_;simp only[go_sem,ha,hxk])
 |(
  refine aa.here 15 52 7 rfl ?_
  refine aa.bc [0,1,2,3,4,5,6] [] (by kernel_rfl) (by kernel_rfl) rfl ?_;simp only[go_sem,ha,hxk])
 |(
  refine aa.here 17 60 14 rfl ?_
  refine aa.gD (.take 0 (.take 1 (.take 2 (.take 3 (.take 4 (.take 5 (.take 6 (.take 7 (.take 8 (.take 9 (.take 10 (.take 11 (.take 12 (.take 13 .done)))))))))))))) [[],[],[1],[1,2],[1,2,3],[1,2,3,4],[],[6],[6,7],[1,2,3,4,5,6,7,8],[0,1,2,3,4,5,6,7,8,9],[0,1,2,3,4,5,6,7,8,9,10],[0,1,2,3,4,5,6,7,8,9,10,11],[0,1,2,3,4,5,6,7,8,9,10,11,12]] [] (by kernel_rfl) (by kernel_rfl) ?_;simp only[go_sem,ha,hxk])
 |(
  refine aa.here 18 73 5 rfl ?_
  refine aa.region ?_;simp only[go_sem,ha,hxk2])
 |(
  refine aa.here 19 77 4 rfl ?_
  refine aa.ka 5 k 2 rfl (List.getElem?_set_self (by simp;omega)) rfl ?_
  simp only[go_sem,ha]
  rw[V0 hkn]
  refine aa.eL 6 0 (jd:=5) (k:=8) (n:=g.ak.length) (cap:=g.ak.length+m) _ ((g.ak.set k (iM w x)).map aN++spare 8 m) (by decide) rfl rfl rfl (by simp[cA]) (by rw[fw];exact fa _) ?_
  rw[fw]
  simp only[go_sem,ha]
  refine aa.region ?_;simp only[go_sem,ha])
 |(
  refine aa.here 5 15 5 rfl ?_
  obtain⟨v,hx⟩:∃v,g.ak[i]?=some v:=⟨_,List.getElem?_eq_getElem (by omega)⟩
  have hv:=hg.2.2 v (List.mem_of_getElem? hx)
  have hx2:(g.ak.map aN++spare 8 m)[i]?=some (aN v):=by rw[List.getElem?_append_left (by simpa using bI hx),List.getElem?_map,hx];rfl
  have hvw:i=k→v=w:=fun e=>by subst e;rw[hx] at hx0;exact Option.some.inj hx0
  (first|have hki:=k7 hbk|(have hki:=lD hbk;have hx3:((g.ak.map aN++spare 8 m).set k (nU w))[i]?=some (aN v):=(List.getElem?_set_ne (by omega)).trans hx2))
  refine aa.region ?_;simp only[go_sem])
 |(
  refine aa.here 7 29 11 rfl ?_
  (first|rw[cN hx]|rw[gz (by omega) hx])
  refine aa.region ?_;simp only[go_sem])
 |(
  refine aa.here 10 57 2 rfl ?_
  (first|rw[cN hx]|rw[gz (by omega) hx]|skip)
  (try rw[List.set_set])
  (try(obtain rfl:=hvw hik1;subst hik1))
  refine aa.region ?_;simp only[go_sem])
 |(
  refine aa.here 8 39 11 rfl ?_
  (first|rw[cN hx]|rw[gz (by omega) hx])
  rcases Nat.decEq i k with hik0|hik1<;>(first|(exfalso;omega)|(refine aa.region ?_;simp only[go_sem])))
 |(
  refine aa.here 9 49 9 rfl ?_
  first
  |(have h0:=hik1;clear h0
    have hx9:((g.ak.map aN++spare 8 m).set i (.agg [aR v.book.af,bZ v.book.ai,.sl (some 0) 1 (v.book.ids.map str),i64 v.book.clock,i64 v.book.bad,aR v.ar,i64 v.last,bl v.br]))[i]?=some (.agg [aR v.book.af,bZ v.book.ai,.sl (some 0) 1 (v.book.ids.map str),i64 v.book.clock,i64 v.book.bad,aR v.ar,i64 v.last,bl v.br]):=List.getElem?_set_self (by simp;omega)
    refine aa.region ?_;simp only[go_sem])
  |((first|rw[cN hx]|rw[gz (by omega) hx]);refine aa.region ?_;simp only[go_sem]))
 |(
  refine aa.here 11 58 5 rfl ?_
  (first|(exfalso;have hki:=k7 hbk;omega)|(have hki:=lD hbk;refine aa.region ?_;simp only[go_sem])))
 |(
  refine aa.here 3 5 4 rfl ?_
  refine aa.bq ?_
  refine aj.jf eA ?_
  simp only[go_sem]
  refine aj.at 3 1 rfl ?_
  simp only[go_sem]
  refine aj.jO jl eA rfl rfl rfl (by simp;omega) (by simp;omega) ?_
  intro m
  simp only[go_sem]
  refine aj.of ?_
  simp only[go_sem])
 |(refine aa.here 1 14 4 rfl ?_;refine aa.bq ?_;refine aj.at 4 1 rfl ?_;simp only[go_sem,ha])
 |(refine aa.region ?_;simp only[go_sem,ha])
 |(refine hK _ ?_;clear hK K)
 |refine aa.block ?_
 |refine aa.cond rfl (fun c=>?_) (fun c=>?_)<;>first|exact Bool.noConfusion c|(try simp only[dD] at c)
 |refine aa.skip ?_
 |(refine aa.exit ?_;simp only[go_sem,ha])
 |(refine ah.one (iW g (k:Int) hgi) (by kernel_rfl) rfl ?_;simp only[go_sem,ha])
 |(refine ah.one (oT w.book x hw0.1 hw0.2.1 hw0.2.2.1) (by kernel_rfl) rfl ?_;simp only[hcf];simp only[go_sem,ha])
 |(refine ah.one (om w.ar x (by have:=hw0.2.2.2;omega)) (by kernel_rfl) rfl ?_;simp only[hix];simp only[go_sem,ha])
 |(refine ah.one (eV v.book.af hv.1) (by kernel_rfl) rfl ?_;simp only[go_sem])
 |(refine ah.one (eV v.ar hv.2.2.2) (by kernel_rfl) rfl ?_;simp only[go_sem])
 |(refine ah.one (jK v.book.ai hv.2.1) (by kernel_rfl) rfl ?_;simp only[go_sem])
 |(have h0:=hik1;clear h0;refine ah.of (ux v.book.ids hv.2.2.1) (by kernel_rfl) rfl ?_;rintro r t ⟨rfl,rfl⟩;simp only[go_sem])
 |(refine ah.one (jU v.book.ids hv.2.2.1) (by kernel_rfl) rfl ?_;simp only[go_sem])
 |(refine ah.one (kQ g.aP hg2) (by kernel_rfl) rfl ?_;simp only[go_sem])
 |(refine aj.call (rs:=[.cell 2 58]) Tryz.func76 rfl Tryz.ntmps76 rfl (by kernel_rfl) rfl rfl ?_;simp only[go_sem])
 |(refine aj.call (rs:=[.tmp 2]) Tryz.func144 rfl Tryz.ntmps144 rfl (by kernel_rfl) rfl rfl ?_;simp only[go_sem])
 |(refine aH.bY (fun h=>?_) (fun h=>?_)<;>simp only[h,go_sem,ha]<;>(try simp only[dD] at h))
 |(refine aG.bA (by assumption) ?_;(try simp only[go_sem,ha]))
 |(refine aG.fT (by assumption) ?_;(try simp only[go_sem,ha]))
 |((first|refine aG.mN ?_ (fun b hb=>?_)|with_reducible refine And.intro ?_ ?_);(focus(first|omega|(simp;done)));(try simp only[hb,go_sem,ha]))
 |(
  refine aa.here 3 13 1 rfl ?_
  refine aa.b6 (ι:=Bool×Nat) [3,4,13,14,15,16,17,18,19,20,21,22,23,24,25,26,27,28,29,30,31,32,33,34,35,36,37,38,39,40,41,42,43,44,45,46,47,48,49,50,51,52,53,54,55,56,57] (fun⟨bk,i⟩=>[(12,i64 i)]) (fun⟨bk,i⟩=>[some [.agg [eD g.ak,bL g.aP,bl g.kill,i64 g.now,i64 g.pat]],some [an x],some [.agg [.aK,.aK,bl false,i64 0,i64 0]],some [.agg [.mu 5 8 0 g.ak.length (g.ak.length+m),bL g.aP,bl g.kill,i64 g.now,i64 g.pat]],some [.agg [.aK,.aK,bl false,i64 0,i64 0]],some (bif bk then((g.ak.map aN++spare 8 m).set k (nU w)) else(g.ak.map aN++spare 8 m))]) (fun⟨bk,i⟩=>(bif bk then[w.book.ids.length] else[])) (fun⟨bk,i⟩=>i≤g.ak.length∧bk=decide (k<i)) (fun⟨bk,i⟩=>g.ak.length-i) ((false,0)) ?_ ?_ ?_
  ·(try simp only[go_sem]);(repeat'(first|refine And.intro ?_ ?_|trivial|exact .inr (aM rfl)|exact .inr dC));done
  ·exact⟨by omega,by simp⟩
  rintro⟨bk,i⟩ ⟨h1,hbk⟩
  simp only[go_sem]
  cases bk<;>simp only[cond_true,cond_false])
 |(
  refine⟨(false,i+1),?_,?_,?_⟩
  ·(try simp only[go_sem]);(try rw[aq (by omega) (by omega)]);(repeat'(first|refine And.intro ?_ ?_|exact .inr rfl|exact .inr (aM rfl)|exact .inr dC|exact .inr ⟨by simp,by simp⟩));done
  ·(exact⟨by omega,rK (by omega)⟩)
  ·(try simp only[]);omega)
 |(
  refine⟨(true,i+1),?_,?_,?_⟩
  ·(try simp only[go_sem]);(try rw[aq (by omega) (by omega)]);(repeat'(first|refine And.intro ?_ ?_|exact .inr rfl|trivial|exact .inr (aM rfl)|exact .inr (Pf (by decide))));done
  ·(exact⟨by omega,oW (by omega)⟩)
  ·(try simp only[]);omega)
 |(
  refine aa.ret ?_
  refine az.is ?_;simp only[go_sem,aB,aE,aF,aA,aC,aD]<;>(first|(rw[wK ha hx0 hcf hkk hop hsn];simp[cf];done)|skip))
 |(refine aa.ret ?_;refine bG.ret rfl ?_;simp only[go_sem,ha])
 |(refine aa.ret ?_;simp only[fU,fJ];refine bG.ret rfl ?_;simp only[go_sem,ha])
 |(refine aj.of ?_;simp only[go_sem,ha])
 |((fail_if_success(have:=hbb));(with_reducible intro bb hbb))
 |(exfalso;omega)
 |refine aa.fin (by assumption) ?_)
theorem vN(g:Gt)(k:Nat)(w:Vn)(x:Ex)(hg:bO g)(hx0:g.ak[k]?=some w)(ha:ba g (k:Int)=true)(nb:Bk)(p:Nat)(hcf:aY w.book x=(nb,3))(hsn:(x.kind=1∨x.kind=4)→eB w.ar x=some p):ae E 30 [aL g,i64 (k:Int),an x] (fun r t=>r= .ax [aL (cj g (k:Int) x).1,i64 (cj g (k:Int) x).2.1,i64 (cj g (k:Int) x).2.2]∧t=[]):=by
 have hgi:=hg.fit
 have hg1:=hg.1
 have hg2:=hg.2.1
 have hkn:=bI hx0
 have hw0:=hg.2.2 w (List.mem_of_getElem? hx0)
 have hil:=hw0.2.2.1
 have hix:=Du hsn
 refine ae.av (n:=104) (rs:=[.cell 6 58,.tmp 7,.tmp 8]) Tryz.func30 rfl Tryz.ntmps30 rfl ?_
 repeat'(first
 |(
  refine aa.jJ hc1 ?_
  first
  |(refine aa.ik [0,1,2,3,4,6] (by decide) rfl rfl ?_;simp only[go_sem,kI,List.length_map];refine aa.weaken ?_ (hc1 m);(try simp only[go_sem]);(repeat'(first|refine And.intro ?_ ?_|trivial|exact .inr (aM rfl)|exact .inr dC));done)
  |(have he:g.ak=[]:=Classical.byContradiction fun hne=>by
     have:=hbb (by simpa using hne)
     simp_all
    refine aa.kg 3 0 8 _ rfl rfl ?_
    simp only[go_sem]
    refine aa.weaken ?_ (hc1 0);(try simp only[go_sem,he,List.length_nil,List.map_nil,kS]);(repeat'(first|refine And.intro ?_ ?_|trivial|exact .inr (aM rfl)));done))
 |refine aa.ab fun K hK=>?_
 |(
  refine aa.here 1 5 5 rfl ?_
  first
  |(have h0:=hc1;clear h0;refine aa.bq ?_;refine aj.at 5 2 rfl ?_;simp only[go_sem])
  |((fail_if_success(have h0:=hc1));refine aa.cutAt (ι:=Nat) [5,6,7,8] (fun(m:Nat)=>[]) (fun(m:Nat)=>[some [.agg [eD g.ak,bL g.aP,bl g.kill,i64 g.now,i64 g.pat]],some [an x],some [.agg [.aK,.aK,bl false,i64 0,i64 0]],some [.agg [.mu 5 8 0 g.ak.length (g.ak.length+m),bL g.aP,bl g.kill,i64 g.now,i64 g.pat]],some [.agg [.aK,.aK,bl false,i64 0,i64 0]],some (g.ak.map aN++spare 8 m)]) (fun(m:Nat)=>[]) hK (fun m=>?_) (fun hc1=>?_)))
 |(refine Cut.mk ?_;simp only[go_sem])
 |(
  refine aa.here 4 21 5 rfl ?_
  have hxk:(g.ak.map aN++spare 8 m)[k]?=some (aN w):=by rw[List.getElem?_append_left (by simpa using bI hx0),List.getElem?_map,hx0];rfl
  have hxk2:∀z,((g.ak.map aN++spare 8 m).set k z)[k]?=some z:=fun z=>List.getElem?_set_self (by simp;omega)
  refine aa.region ?_;simp only[go_sem,ha])
 |(
  refine aa.here 5 26 12 rfl ?_
  refine aa.bc [0,1,2,3,4,9,5,6,7,8,10,11] [11] (by kernel_rfl) (by kernel_rfl) rfl ?_;simp only[go_sem,ha,hxk])
 |(
  refine aa.here 15 52 7 rfl ?_
  refine aa.bc [0,1,2,3,4,5,6] [] (by kernel_rfl) (by kernel_rfl) rfl ?_;simp only[go_sem,ha,hxk])
 |(
  refine aa.here 20 78 5 rfl ?_
  refine aa.region ?_;simp only[go_sem,ha,hxk])
 |(
  refine aa.here 25 102 5 rfl ?_
  rw[show(g.ak.map aN++spare 8 m).set k (.agg [aR nb.af,bZ nb.ai,.sl none 1 (nb.ids.map str),i64 nb.clock,i64 nb.bad,aR w.ar,i64 w.last,bl w.br])=(g.ak.set k ⟨nb,w.ar,w.last,w.br⟩).map aN++spare 8 m from lE (v:=⟨nb,w.ar,w.last,w.br⟩) hkn]
  refine aa.eL 6 0 (jd:=5) (k:=8) (n:=g.ak.length) (cap:=g.ak.length+m) _ ((g.ak.set k ⟨nb,w.ar,w.last,w.br⟩).map aN++spare 8 m) (by decide) rfl rfl rfl (by simp[cA]) (by rw[fw];exact fa _) ?_
  rw[fw]
  simp only[go_sem,ha]
  refine aa.region ?_;simp only[go_sem,ha])
 |(
  refine aa.here 5 15 5 rfl ?_
  obtain⟨v,hx⟩:∃v,g.ak[i]?=some v:=⟨_,List.getElem?_eq_getElem (by omega)⟩
  have hv:=hg.2.2 v (List.mem_of_getElem? hx)
  have hx2:(g.ak.map aN++spare 8 m)[i]?=some (aN v):=by rw[List.getElem?_append_left (by simpa using bI hx),List.getElem?_map,hx];rfl
  refine aa.region ?_;simp only[go_sem])
 |(
  refine aa.here 7 29 11 rfl ?_
  (try rw[cN hx])
  refine aa.region ?_;simp only[go_sem])
 |(
  refine aa.here 8 39 11 rfl ?_
  (try rw[cN hx])
  refine aa.region ?_;simp only[go_sem])
 |(
  refine aa.here 9 49 9 rfl ?_
  (try rw[cN hx])
  refine aa.region ?_;simp only[go_sem])
 |(
  refine aa.here 10 57 2 rfl ?_
  (try rw[cN hx])
  refine aa.region ?_;simp only[go_sem])
 |(
  refine aa.here 3 5 4 rfl ?_
  refine aa.bq ?_
  refine aj.jf eA ?_
  simp only[go_sem]
  refine aj.at 3 1 rfl ?_
  simp only[go_sem]
  refine aj.jO jl eA rfl rfl rfl (by simp;omega) (by simp;omega) ?_
  intro m
  simp only[go_sem]
  refine aj.of ?_
  simp only[go_sem])
 |(refine aa.here 1 14 4 rfl ?_;refine aa.bq ?_;refine aj.at 4 1 rfl ?_;simp only[go_sem,ha])
 |(refine aa.region ?_;simp only[go_sem,ha])
 |(refine hK _ ?_;clear hK K)
 |refine aa.block ?_
 |refine aa.cond rfl (fun c=>?_) (fun c=>?_)<;>first|exact Bool.noConfusion c|(try simp only[dD] at c)
 |refine aa.skip ?_
 |(refine aa.exit ?_;simp only[go_sem,ha])
 |(refine ah.one (iW g (k:Int) hgi) (by kernel_rfl) rfl ?_;simp only[go_sem,ha])
 |(refine ah.one (oT w.book x hw0.1 hw0.2.1 hw0.2.2.1) (by kernel_rfl) rfl ?_;simp only[hcf];simp only[go_sem,ha])
 |(have hop:x.kind=1∨x.kind=4:=(by omega);refine ah.one (om w.ar x (by have:=hw0.2.2.2;omega)) (by kernel_rfl) rfl ?_;simp only[hix hop];simp only[go_sem,ha])
 |(refine ah.one (eV v.book.af hv.1) (by kernel_rfl) rfl ?_;simp only[go_sem])
 |(refine ah.one (eV v.ar hv.2.2.2) (by kernel_rfl) rfl ?_;simp only[go_sem])
 |(refine ah.one (jK v.book.ai hv.2.1) (by kernel_rfl) rfl ?_;simp only[go_sem])
 |(refine ah.one (jU v.book.ids hv.2.2.1) (by kernel_rfl) rfl ?_;simp only[go_sem])
 |(refine ah.one (kQ g.aP hg2) (by kernel_rfl) rfl ?_;simp only[go_sem])
 |(refine aj.call (rs:=[.cell 2 58]) Tryz.func76 rfl Tryz.ntmps76 rfl (by kernel_rfl) rfl rfl ?_;simp only[go_sem])
 |(refine aj.call (rs:=[.tmp 2]) Tryz.func144 rfl Tryz.ntmps144 rfl (by kernel_rfl) rfl rfl ?_;simp only[go_sem])
 |(refine aH.bY (fun h=>?_) (fun h=>?_)<;>simp only[h,go_sem,ha]<;>(try simp only[dD] at h))
 |(refine aG.bA (by assumption) ?_;(try simp only[go_sem,ha]))
 |(refine aG.fT (by assumption) ?_;(try simp only[go_sem,ha]))
 |((with_reducible refine And.intro ?_ ?_);(focus(first|omega|(simp;done)));(try simp only[hb,go_sem,ha]))
 |(
  refine aa.here 3 13 1 rfl ?_
  refine aa.cr (ι:=Nat) [3,4,13,14,15,16,17,18,19,20,21,22,23,24,25,26,27,28,29,30,31,32,33,34,35,36,37,38,39,40,41,42,43,44,45,46,47,48,49,50,51,52,53,54,55,56,57] (fun(i:Nat)=>[(12,i64 i)]) (fun(i:Nat)=>i≤g.ak.length) (fun(i:Nat)=>g.ak.length-i) (0) ?_ ?_ ?_
  ·(try simp only[go_sem]);(repeat'(first|refine And.intro ?_ ?_|trivial|exact .inr (aM rfl)|exact .inr dC));done
  ·omega
  rintro i h1
  simp only[go_sem])
 |(
  refine⟨i+1,?_,?_,?_⟩
  ·(try simp only[go_sem]);(try rw[aq (by omega) (by omega)]);(repeat'(first|refine And.intro ?_ ?_|exact .inr rfl|trivial|exact .inr (aM rfl)|exact .inr dC));done
  ·omega
  ·(try simp only[]);omega)
 |(
  refine aa.ret ?_
  refine az.is ?_;simp only[go_sem,aB,aE,aF,aA,aC,aD]<;>((rw[xu ha hx0 hcf hsn];simp[cf];done)))
 |(refine aa.ret ?_;refine bG.ret rfl ?_;simp only[go_sem,ha])
 |(refine aa.ret ?_;simp only[fU,fJ];refine bG.ret rfl ?_;simp only[go_sem,ha])
 |(refine aj.of ?_;simp only[go_sem,ha])
 |((fail_if_success(have:=hbb));(with_reducible intro bb hbb))
 |refine aa.fin (by assumption) ?_)
theorem Wc(g:Gt)(k:Nat)(w:Vn)(x:Ex)(hg:bO g)(hx0:g.ak[k]?=some w)(ha:ba g (k:Int)=true)(nb:Bk)(hcf:aY w.book x=(nb,1))(hnop:¬(x.kind=1∨x.kind=4)):ae E 30 [aL g,i64 (k:Int),an x] (fun r t=>r= .ax [aL (cj g (k:Int) x).1,i64 (cj g (k:Int) x).2.1,i64 (cj g (k:Int) x).2.2]∧t=[]):=by
 have hgi:=hg.fit
 have hg1:=hg.1
 have hg2:=hg.2.1
 have hkn:=bI hx0
 have hw0:=hg.2.2 w (List.mem_of_getElem? hx0)
 have hil:=hw0.2.2.1
 refine ae.av (n:=104) (rs:=[.cell 6 58,.tmp 7,.tmp 8]) Tryz.func30 rfl Tryz.ntmps30 rfl ?_
 repeat'(first
 |(
  refine aa.jJ hc1 ?_
  first
  |(refine aa.ik [0,1,2,3,4,6] (by decide) rfl rfl ?_;simp only[go_sem,kI,List.length_map];refine aa.weaken ?_ (hc1 m);(try simp only[go_sem]);(repeat'(first|refine And.intro ?_ ?_|trivial|exact .inr (aM rfl)|exact .inr dC));done)
  |(have he:g.ak=[]:=Classical.byContradiction fun hne=>by
     have:=hbb (by simpa using hne)
     simp_all
    refine aa.kg 3 0 8 _ rfl rfl ?_
    simp only[go_sem]
    refine aa.weaken ?_ (hc1 0);(try simp only[go_sem,he,List.length_nil,List.map_nil,kS]);(repeat'(first|refine And.intro ?_ ?_|trivial|exact .inr (aM rfl)));done))
 |refine aa.ab fun K hK=>?_
 |(
  refine aa.here 1 5 5 rfl ?_
  first
  |(have h0:=hc1;clear h0;refine aa.bq ?_;refine aj.at 5 2 rfl ?_;simp only[go_sem])
  |((fail_if_success(have h0:=hc1));refine aa.cutAt (ι:=Nat) [5,6,7,8] (fun(m:Nat)=>[]) (fun(m:Nat)=>[some [.agg [eD g.ak,bL g.aP,bl g.kill,i64 g.now,i64 g.pat]],some [an x],some [.agg [.aK,.aK,bl false,i64 0,i64 0]],some [.agg [.mu 5 8 0 g.ak.length (g.ak.length+m),bL g.aP,bl g.kill,i64 g.now,i64 g.pat]],some [.agg [.aK,.aK,bl false,i64 0,i64 0]],some (g.ak.map aN++spare 8 m)]) (fun(m:Nat)=>[]) hK (fun m=>?_) (fun hc1=>?_)))
 |(refine Cut.mk ?_;simp only[go_sem])
 |(
  refine aa.here 4 21 5 rfl ?_
  have hxk:(g.ak.map aN++spare 8 m)[k]?=some (aN w):=by rw[List.getElem?_append_left (by simpa using bI hx0),List.getElem?_map,hx0];rfl
  have hxk2:∀z,((g.ak.map aN++spare 8 m).set k z)[k]?=some z:=fun z=>List.getElem?_set_self (by simp;omega)
  refine aa.region ?_;simp only[go_sem,ha])
 |(
  refine aa.here 5 26 12 rfl ?_
  refine aa.bc [0,1,2,3,4,9,5,6,7,8,10,11] [11] (by kernel_rfl) (by kernel_rfl) rfl ?_;simp only[go_sem,ha,hxk])
 |(
  refine aa.here 20 78 5 rfl ?_
  refine aa.region ?_;simp only[go_sem,ha,hxk])
 |(
  refine aa.here 22 84 6 rfl ?_
  refine aa.region ?_;simp only[go_sem,ha,hxk2])
 |(
  refine aa.here 25 102 5 rfl ?_
  (try rw[List.set_set])
  rw[show(g.ak.map aN++spare 8 m).set k (.agg [aR nb.af,bZ nb.ai,.sl none 1 (nb.ids.map str),i64 nb.clock,i64 nb.bad,aR w.ar,i64 g.now,bl w.br])=(g.ak.set k ⟨nb,w.ar,g.now,w.br⟩).map aN++spare 8 m from lE (v:=⟨nb,w.ar,g.now,w.br⟩) hkn]
  refine aa.eL 6 0 (jd:=5) (k:=8) (n:=g.ak.length) (cap:=g.ak.length+m) _ ((g.ak.set k ⟨nb,w.ar,g.now,w.br⟩).map aN++spare 8 m) (by decide) rfl rfl rfl (by simp[cA]) (by rw[fw];exact fa _) ?_
  rw[fw]
  simp only[go_sem,ha]
  refine aa.region ?_;simp only[go_sem,ha])
 |(
  refine aa.here 5 15 5 rfl ?_
  obtain⟨v,hx⟩:∃v,g.ak[i]?=some v:=⟨_,List.getElem?_eq_getElem (by omega)⟩
  have hv:=hg.2.2 v (List.mem_of_getElem? hx)
  have hx2:(g.ak.map aN++spare 8 m)[i]?=some (aN v):=by rw[List.getElem?_append_left (by simpa using bI hx),List.getElem?_map,hx];rfl
  refine aa.region ?_;simp only[go_sem])
 |(
  refine aa.here 7 29 11 rfl ?_
  (try rw[cN hx])
  refine aa.region ?_;simp only[go_sem])
 |(
  refine aa.here 8 39 11 rfl ?_
  (try rw[cN hx])
  refine aa.region ?_;simp only[go_sem])
 |(
  refine aa.here 9 49 9 rfl ?_
  (try rw[cN hx])
  refine aa.region ?_;simp only[go_sem])
 |(
  refine aa.here 10 57 2 rfl ?_
  (try rw[cN hx])
  refine aa.region ?_;simp only[go_sem])
 |(
  refine aa.here 3 5 4 rfl ?_
  refine aa.bq ?_
  refine aj.jf eA ?_
  simp only[go_sem]
  refine aj.at 3 1 rfl ?_
  simp only[go_sem]
  refine aj.jO jl eA rfl rfl rfl (by simp;omega) (by simp;omega) ?_
  intro m
  simp only[go_sem]
  refine aj.of ?_
  simp only[go_sem])
 |(refine aa.here 1 14 4 rfl ?_;refine aa.bq ?_;refine aj.at 4 1 rfl ?_;simp only[go_sem,ha])
 |(refine aa.region ?_;simp only[go_sem,ha])
 |(refine aa.here 15 52 7 rfl ?_;refine aa.bc [0,1,2,3,4,5,6] [] (by kernel_rfl) (by kernel_rfl) rfl ?_;simp only[go_sem,ha])
 |(refine aa.here 17 60 14 rfl ?_;refine aa.gD (.take 0 (.take 1 (.take 2 (.take 3 (.take 4 (.take 5 (.take 6 (.take 7 (.take 8 (.take 9 (.take 10 (.take 11 (.take 12 (.take 13 .done)))))))))))))) [[],[],[1],[1,2],[1,2,3],[1,2,3,4],[],[6],[6,7],[1,2,3,4,5,6,7,8],[0,1,2,3,4,5,6,7,8,9],[0,1,2,3,4,5,6,7,8,9,10],[0,1,2,3,4,5,6,7,8,9,10,11],[0,1,2,3,4,5,6,7,8,9,10,11,12]] [] (by kernel_rfl) (by kernel_rfl) ?_;simp only[go_sem,ha])
 |(refine hK _ ?_;clear hK K)
 |refine aa.block ?_
 |refine aa.cond rfl (fun c=>?_) (fun c=>?_)<;>first|exact Bool.noConfusion c|(try simp only[dD] at c)
 |refine aa.skip ?_
 |(refine aa.exit ?_;simp only[go_sem,ha])
 |(refine ah.one (iW g (k:Int) hgi) (by kernel_rfl) rfl ?_;simp only[go_sem,ha])
 |(refine ah.one (oT w.book x hw0.1 hw0.2.1 hw0.2.2.1) (by kernel_rfl) rfl ?_;simp only[hcf];simp only[go_sem,ha])
 |(refine ah.one (om _ _ (by(omega))) (by kernel_rfl) rfl ?_;simp only[go_sem,ha])
 |(refine ah.one (eV v.book.af hv.1) (by kernel_rfl) rfl ?_;simp only[go_sem])
 |(refine ah.one (eV v.ar hv.2.2.2) (by kernel_rfl) rfl ?_;simp only[go_sem])
 |(refine ah.one (jK v.book.ai hv.2.1) (by kernel_rfl) rfl ?_;simp only[go_sem])
 |(refine ah.one (jU v.book.ids hv.2.2.1) (by kernel_rfl) rfl ?_;simp only[go_sem])
 |(refine ah.one (kQ g.aP hg2) (by kernel_rfl) rfl ?_;simp only[go_sem])
 |(refine aj.call (rs:=[.cell 2 58]) Tryz.func76 rfl Tryz.ntmps76 rfl (by kernel_rfl) rfl rfl ?_;simp only[go_sem])
 |(refine aj.call (rs:=[.tmp 2]) Tryz.func144 rfl Tryz.ntmps144 rfl (by kernel_rfl) rfl rfl ?_;simp only[go_sem])
 |(refine aH.bY (fun h=>?_) (fun h=>?_)<;>simp only[h,go_sem,ha]<;>(try simp only[dD] at h))
 |(refine aG.bA (by assumption) ?_;(try simp only[go_sem,ha]))
 |(refine aG.fT (by assumption) ?_;(try simp only[go_sem,ha]))
 |((first|refine aG.nth ?_ (fun b hb=>?_)|refine aG.mN ?_ (fun b hb=>?_)|with_reducible refine And.intro ?_ ?_);(focus(first|omega|(simp;done)));(try simp only[hb,go_sem,ha]))
 |(
  refine aa.here 3 13 1 rfl ?_
  refine aa.cr (ι:=Nat) [3,4,13,14,15,16,17,18,19,20,21,22,23,24,25,26,27,28,29,30,31,32,33,34,35,36,37,38,39,40,41,42,43,44,45,46,47,48,49,50,51,52,53,54,55,56,57] (fun(i:Nat)=>[(12,i64 i)]) (fun(i:Nat)=>i≤g.ak.length) (fun(i:Nat)=>g.ak.length-i) (0) ?_ ?_ ?_
  ·(try simp only[go_sem]);(repeat'(first|refine And.intro ?_ ?_|trivial|exact .inr (aM rfl)|exact .inr dC));done
  ·omega
  rintro i h1
  simp only[go_sem])
 |(
  refine⟨i+1,?_,?_,?_⟩
  ·(try simp only[go_sem]);(try rw[aq (by omega) (by omega)]);(repeat'(first|refine And.intro ?_ ?_|exact .inr rfl|trivial|exact .inr (aM rfl)|exact .inr dC));done
  ·omega
  ·(try simp only[]);omega)
 |(
  refine aa.ret ?_
  refine az.is ?_;simp only[go_sem,aB,aE,aF,aA,aC,aD]<;>((rw[Bz ha hx0 hcf hnop];simp[cf];done)))
 |(refine aa.ret ?_;refine bG.ret rfl ?_;simp only[go_sem,ha])
 |(refine aa.ret ?_;simp only[fU,fJ];refine bG.ret rfl ?_;simp only[go_sem,ha])
 |(refine aj.of ?_;simp only[go_sem,ha])
 |((fail_if_success(have:=hbb));(with_reducible intro bb hbb))
 |(exfalso;omega)
 |refine aa.fin (by assumption) ?_)
theorem Wf(g:Gt)(k:Nat)(w:Vn)(x:Ex)(hg:bO g)(hx0:g.ak[k]?=some w)(ha:ba g (k:Int)=true)(nb:Bk)(p:Nat)(hcf:aY w.book x=(nb,1))(hop:x.kind=1∨x.kind=4)(hsn:eB w.ar x=some p):ae E 30 [aL g,i64 (k:Int),an x] (fun r t=>r= .ax [aL (cj g (k:Int) x).1,i64 (cj g (k:Int) x).2.1,i64 (cj g (k:Int) x).2.2]∧t=[]):=by
 have hgi:=hg.fit
 have hg1:=hg.1
 have hg2:=hg.2.1
 have hkn:=bI hx0
 have hw0:=hg.2.2 w (List.mem_of_getElem? hx0)
 have hil:=hw0.2.2.1
 have hix:=xh hsn
 have hpl:=Ip hsn
 have hwp:IntKind.i64.wrap ((p:Int)+1)=(p:Int)+1:=aq (by omega) (by have:=hw0.2.2.2;omega)
 refine ae.av (n:=104) (rs:=[.cell 6 58,.tmp 7,.tmp 8]) Tryz.func30 rfl Tryz.ntmps30 rfl ?_
 repeat'(first
 |(
  refine aa.jJ hc1 ?_
  first
  |(refine aa.ik [0,1,2,3,4,6] (by decide) rfl rfl ?_;simp only[go_sem,kI,List.length_map];refine aa.weaken ?_ (hc1 m);(try simp only[go_sem]);(repeat'(first|refine And.intro ?_ ?_|trivial|exact .inr (aM rfl)|exact .inr dC));done)
  |(have he:g.ak=[]:=Classical.byContradiction fun hne=>by
     have:=hbb (by simpa using hne)
     simp_all
    refine aa.kg 3 0 8 _ rfl rfl ?_
    simp only[go_sem]
    refine aa.weaken ?_ (hc1 0);(try simp only[go_sem,he,List.length_nil,List.map_nil,kS]);(repeat'(first|refine And.intro ?_ ?_|trivial|exact .inr (aM rfl)));done))
 |refine aa.ab fun K hK=>?_
 |(
  refine aa.here 1 5 5 rfl ?_
  first
  |(have h0:=hc1;clear h0;refine aa.bq ?_;refine aj.at 5 2 rfl ?_;simp only[go_sem])
  |((fail_if_success(have h0:=hc1));refine aa.cutAt (ι:=Nat) [5,6,7,8] (fun(m:Nat)=>[]) (fun(m:Nat)=>[some [.agg [eD g.ak,bL g.aP,bl g.kill,i64 g.now,i64 g.pat]],some [an x],some [.agg [.aK,.aK,bl false,i64 0,i64 0]],some [.agg [.mu 5 8 0 g.ak.length (g.ak.length+m),bL g.aP,bl g.kill,i64 g.now,i64 g.pat]],some [.agg [.aK,.aK,bl false,i64 0,i64 0]],some (g.ak.map aN++spare 8 m)]) (fun(m:Nat)=>[]) hK (fun m=>?_) (fun hc1=>?_)))
 |(refine Cut.mk ?_;simp only[go_sem])
 |(
  refine aa.here 4 21 5 rfl ?_
  have hxk:((g.ak.map aN++spare 8 m).set k (lf w m2))[k]?=some (lf w m2):=List.getElem?_set_self (by simp;omega)
  have hxk2:∀z,(((g.ak.map aN++spare 8 m).set k (lf w m2)).set k z)[k]?=some z:=fun z=>List.getElem?_set_self (by simp;omega)
  have hxk3:∀y z,((((g.ak.map aN++spare 8 m).set k (lf w m2)).set k y).set k z)[k]?=some z:=fun y z=>List.getElem?_set_self (by simp;omega)
  refine aa.region ?_;simp only[go_sem,ha])
 |(
  refine aa.here 5 26 12 rfl ?_
  refine aa.bc [0,1,2,3,4,9,5,6,7,8,10,11] [11] (by kernel_rfl) (by kernel_rfl) rfl ?_;simp only[go_sem,ha,hxk])
 |(
  refine aa.here 20 78 5 rfl ?_
  refine aa.region ?_;simp only[go_sem,ha,hxk])
 |(
  refine aa.here 22 84 6 rfl ?_
  refine aa.region ?_;simp only[go_sem,ha,hxk2])
 |(
  refine aa.here 25 102 5 rfl ?_
  refine aa.DR 5 k 5 (jd:=6) (k:=8) (n:=w.ar.length-1) (cap:=w.ar.length+m2) ((w.ar.eraseIdx p).map aW++spare 8 (m2+1)) (by decide) rfl (List.getElem?_set_self (by simp;omega)) rfl rfl (by simp[cA,List.length_eraseIdx_of_lt hpl];try omega) (by rw[zX hpl];exact ij _) ?_
  rw[zX hpl]
  simp only[go_sem,ha]
  rw[S3 hkn]
  refine aa.eL 7 0 (jd:=5) (k:=8) (n:=g.ak.length) (cap:=g.ak.length+m) _ ((g.ak.set k ⟨nb,w.ar.eraseIdx p,g.now,w.br⟩).map aN++spare 8 m) (by decide) rfl rfl rfl (by simp[cA]) (by rw[fw];exact fa _) ?_
  rw[fw]
  simp only[go_sem,ha]
  refine aa.region ?_;simp only[go_sem,ha])
 |(
  refine aa.here 15 52 7 rfl ?_
  refine aa.pc [[],[0],[0,1],[0,1,2],[],[0,1,2,3,4],[0,1,2,3,4,5]] [.ptr 5 k 0,.ptr 5 k 0,.ptr 5 k 5,.mu 6 8 0 w.ar.length (w.ar.length+m2),an x,i64 (p:Int),i64 (p:Int)] [] (fun _=>[some [aL g],some [an x],some [.agg [.aK,.aK,bl false,i64 0,i64 0]],some [.agg [.mu 5 8 0 g.ak.length (g.ak.length+m),bL g.aP,bl g.kill,i64 g.now,i64 g.pat]],some [.agg [.mu 5 8 0 g.ak.length (g.ak.length+m),bL g.aP,bl g.kill,i64 g.now,i64 g.pat]],some ((g.ak.map aN++spare 8 m).set k (lf w m2)),some (w.ar.map aW++spare 8 m2),some [.agg [.mu 5 8 0 g.ak.length (g.ak.length+m),bL g.aP,bl g.kill,i64 g.now,i64 g.pat]],some [dn nb]]) (by kernel_rfl) (by kernel_rfl) rfl rfl rfl ?_ ?_ ?_
  ·intro i o ho hi s hg how htk hrs hr
   rcases i with _|i
   ·simp only[List.getElem?_toArray,List.getElem?_cons_zero,List.getElem?_cons_succ,Option.some.injEq] at ho;subst ho
    have e10:=(hr 10 (by decide)).trans (rfl:_=(.ptr 5 k 0:AV))
    refine b8.list ?_
    simp only[go_sem,e10]
    (done)
   rcases i with _|i
   ·simp only[List.getElem?_toArray,List.getElem?_cons_zero,List.getElem?_cons_succ,Option.some.injEq] at ho;subst ho
    have e52:=(hr 52 (by decide)).trans (rfl:_=(.ptr 5 k 0:AV))
    refine b8.list ?_
    simp only[go_sem,e52]
    (done)
   rcases i with _|i
   ·simp only[List.getElem?_toArray,List.getElem?_cons_zero,List.getElem?_cons_succ,Option.some.injEq] at ho;subst ho
    have e53:=(hr 53 (by decide)).trans (rfl:_=(.ptr 5 k 0:AV))
    refine b8.list ?_
    simp only[go_sem,e53]
    (done)
   rcases i with _|i
   ·simp only[List.getElem?_toArray,List.getElem?_cons_zero,List.getElem?_cons_succ,Option.some.injEq] at ho;subst ho
    have e54:=(hr 54 (by decide)).trans (rfl:_=(.ptr 5 k 5:AV))
    obtain⟨kq,hkq⟩:=how
    refine b8.list ?_
    simp only[go_sem,e54,hkq,hxk]
    (done)
   rcases i with _|i
   ·simp only[List.getElem?_toArray,List.getElem?_cons_zero,List.getElem?_cons_succ,Option.some.injEq] at ho;subst ho
    have e5:=(hr 5 (by decide)).trans (rfl:_=(.ptr 1 0 0:AV))
    obtain⟨kq,hkq⟩:=how
    refine b8.list ?_
    simp only[go_sem,e5,hkq,hxk]
    (done)
   rcases i with _|i
   ·simp only[List.getElem?_toArray,List.getElem?_cons_zero,List.getElem?_cons_succ,Option.some.injEq] at ho;subst ho
    have e55:=(hr 55 (by decide)).trans (rfl:_=(.mu 6 8 0 w.ar.length (w.ar.length+m2):AV))
    have e56:=(hr 56 (by decide)).trans (rfl:_=(an x:AV))
    obtain⟨tm,ow0,tk0,gl0,rsv0,up0⟩:=s
    obtain⟨kq,hkq⟩:=how
    simp only[] at hkq hrs htk hg
    subst hkq;subst hrs;subst htk;subst hg
    refine b8.list ?_
    simp only[go_sem,e55,e56]
    refine ah.gS (om w.ar x (by have:=hw0.2.2.2;omega)) (by kernel_rfl) rfl (.cons (.one (.iY rfl (by simp) (ij _))) (.cons (.one (.clean rfl)) .nil)) ?_
    simp only[go_sem,hix]
    try simp
   rcases i with _|i
   ·simp only[List.getElem?_toArray,List.getElem?_cons_zero,List.getElem?_cons_succ,Option.some.injEq] at ho;subst ho
    have e57:=(hr 57 (by decide)).trans (rfl:_=(i64 (p:Int):AV))
    refine b8.list ?_
    simp only[go_sem,e57]
    (done)
   ·exact absurd ho (by simp)
  ·intro k i o hk ho s hg how htk hrs hup hpp hr
   ·exact absurd hk (by simp)
  simp only[go_sem,Go.Abs.gY,Go.Abs.dstsOf,List.map_cons,List.map_nil])
 |(
  refine aa.here 24 91 12 rfl ?_
  refine aa.bq ?_
  refine aj.at 12 8 rfl ?_
  simp only[go_sem,ha,hxk3,hwp]
  refine Ht (p:=p) (m:=m2) (l:=w.ar) rfl rfl (by push_cast;rfl) rfl hpl (by have:=hw0.2.2.2;omega) ?_
  simp only[go_sem,ha,hxk3]
  (try refine aj.at 3 3 rfl ?_)
  (try simp only[go_sem,ha,hxk3])
  (try refine aj.of ?_)
  (try simp only[go_sem]))
 |(
  refine aa.here 5 15 5 rfl ?_
  obtain⟨v,hx⟩:∃v,g.ak[i]?=some v:=⟨_,List.getElem?_eq_getElem (by omega)⟩
  have hv:=hg.2.2 v (List.mem_of_getElem? hx)
  have hx2:(g.ak.map aN++spare 8 m)[i]?=some (aN v):=by rw[List.getElem?_append_left (by simpa using bI hx),List.getElem?_map,hx];rfl
  have hvw:i=k→v=w:=fun e=>by subst e;rw[hx] at hx0;exact Option.some.inj hx0
  (first|have hki:=k7 hbk|(have hki:=lD hbk;have hx3:((g.ak.map aN++spare 8 m).set k (lf w m2))[i]?=some (aN v):=(List.getElem?_set_ne (by omega)).trans hx2))
  refine aa.region ?_;simp only[go_sem])
 |(
  refine aa.here 7 29 11 rfl ?_
  (first|rw[cN hx]|rw[gz (by omega) hx])
  refine aa.region ?_;simp only[go_sem])
 |(
  refine aa.here 8 39 11 rfl ?_
  (first|rw[cN hx]|rw[gz (by omega) hx])
  refine aa.region ?_;simp only[go_sem])
 |(
  refine aa.here 10 57 2 rfl ?_
  (first|rw[cN hx]|rw[gz (by omega) hx]|skip)
  (try(obtain rfl:=hvw hik1;subst hik1))
  refine aa.region ?_;simp only[go_sem])
 |(
  refine aa.here 9 49 9 rfl ?_
  (first|rw[cN hx]|rw[gz (by omega) hx])
  rcases Nat.decEq i k with hik0|hik1<;>(first|(exfalso;omega)|(refine aa.region ?_;simp only[go_sem])))
 |(
  refine aa.here 11 58 5 rfl ?_
  (first|(exfalso;have hki:=k7 hbk;omega)|(have hki:=lD hbk;refine aa.region ?_;simp only[go_sem])))
 |(
  refine aa.here 3 5 4 rfl ?_
  refine aa.bq ?_
  refine aj.jf eA ?_
  simp only[go_sem]
  refine aj.at 3 1 rfl ?_
  simp only[go_sem]
  refine aj.jO jl eA rfl rfl rfl (by simp;omega) (by simp;omega) ?_
  intro m
  simp only[go_sem]
  refine aj.of ?_
  simp only[go_sem])
 |(refine aa.here 1 14 4 rfl ?_;refine aa.bq ?_;refine aj.at 4 1 rfl ?_;simp only[go_sem,ha])
 |(refine aa.region ?_;simp only[go_sem,ha])
 |(refine hK _ ?_;clear hK K)
 |refine aa.block ?_
 |refine aa.cond rfl (fun c=>?_) (fun c=>?_)<;>first|exact Bool.noConfusion c|(try simp only[dD] at c)
 |refine aa.skip ?_
 |(refine aa.exit ?_;simp only[go_sem,ha])
 |(refine ah.one (iW g (k:Int) hgi) (by kernel_rfl) rfl ?_;simp only[go_sem,ha])
 |(refine ah.one (oT w.book x hw0.1 hw0.2.1 hw0.2.2.1) (by kernel_rfl) rfl ?_;simp only[hcf];simp only[go_sem,ha])
 |(have h0:=hik1;clear h0;refine ah.take (mj v.ar hv.2.2.2) (by kernel_rfl) rfl (.cons (.one (.clean rfl)) .nil) ?_;rintro r t ⟨rfl,rfl⟩;refine⟨0,8,_,rfl,by simp,qG _,fun m3=>?_⟩;simp only[go_sem,List.length_map])
 |(refine ah.one (eV v.book.af hv.1) (by kernel_rfl) rfl ?_;simp only[go_sem])
 |(refine ah.one (eV v.ar hv.2.2.2) (by kernel_rfl) rfl ?_;simp only[go_sem])
 |(refine ah.one (jK v.book.ai hv.2.1) (by kernel_rfl) rfl ?_;simp only[go_sem])
 |(refine ah.one (jU v.book.ids hv.2.2.1) (by kernel_rfl) rfl ?_;simp only[go_sem])
 |(refine ah.one (kQ g.aP hg2) (by kernel_rfl) rfl ?_;simp only[go_sem])
 |(refine aj.call (rs:=[.cell 2 58]) Tryz.func76 rfl Tryz.ntmps76 rfl (by kernel_rfl) rfl rfl ?_;simp only[go_sem])
 |(refine aj.call (rs:=[.tmp 2]) Tryz.func144 rfl Tryz.ntmps144 rfl (by kernel_rfl) rfl rfl ?_;simp only[go_sem])
 |(refine aH.bY (fun h=>?_) (fun h=>?_)<;>simp only[h,go_sem,ha]<;>(try simp only[dD] at h))
 |(refine aG.bA (by assumption) ?_;(try simp only[go_sem,ha]))
 |(refine aG.fT (by assumption) ?_;(try simp only[go_sem,ha]))
 |((with_reducible refine And.intro ?_ ?_);(focus(first|omega|(simp;done)));(try simp only[hb,go_sem,ha]))
 |(
  refine aa.here 3 13 1 rfl ?_
  refine aa.b6 (ι:=Bool×Nat×Nat) [3,4,13,14,15,16,17,18,19,20,21,22,23,24,25,26,27,28,29,30,31,32,33,34,35,36,37,38,39,40,41,42,43,44,45,46,47,48,49,50,51,52,53,54,55,56,57] (fun⟨bk,i,m2⟩=>[(12,i64 i)]) (fun⟨bk,i,m2⟩=>[some [.agg [eD g.ak,bL g.aP,bl g.kill,i64 g.now,i64 g.pat]],some [an x],some [.agg [.aK,.aK,bl false,i64 0,i64 0]],some [.agg [.mu 5 8 0 g.ak.length (g.ak.length+m),bL g.aP,bl g.kill,i64 g.now,i64 g.pat]],some [.agg [.aK,.aK,bl false,i64 0,i64 0]],some (bif bk then((g.ak.map aN++spare 8 m).set k (lf w m2)) else(g.ak.map aN++spare 8 m))]++(bif bk then[some (w.ar.map aW++spare 8 m2)] else[])) (fun⟨bk,i,m2⟩=>([]:List Nat)) (fun⟨bk,i,m2⟩=>i≤g.ak.length∧bk=decide (k<i)) (fun⟨bk,i,m2⟩=>g.ak.length-i) ((false,0,0)) ?_ ?_ ?_
  ·(try simp only[go_sem]);(try simp only[cond_true,cond_false,List.cons_append,List.nil_append,List.append_nil,List.set_set]);(repeat'(first|exact .inr dC|refine And.intro ?_ ?_|trivial|exact .inr (aM rfl)));done
  ·exact⟨by omega,by simp⟩
  rintro⟨bk,i,m2⟩ ⟨h1,hbk⟩
  simp only[go_sem]
  cases bk<;>simp only[cond_true,cond_false,List.cons_append,List.nil_append,List.append_nil])
 |(
  refine⟨(false,i+1,m2),?_,?_,?_⟩
  ·(try simp only[go_sem]);(try rw[aq (by omega) (by omega)]);(try simp only[cond_true,cond_false,List.cons_append,List.nil_append,List.append_nil,List.set_set]);(repeat'(first|exact .inr dC|refine And.intro ?_ ?_|exact .inr rfl|trivial|exact .inr (aM rfl)|exact .inr ⟨by simp,by simp⟩));done
  ·(try dsimp only);(exact⟨by omega,rK (by omega)⟩)
  ·(try simp only[]);omega)
 |(
  refine⟨(true,i+1,m3),?_,?_,?_⟩
  ·(try simp only[go_sem]);(try rw[aq (by omega) (by omega)]);(try simp only[cond_true,cond_false,List.cons_append,List.nil_append,List.append_nil,List.set_set]);(repeat'(first|exact .inr (xF (by decide))|exact .inr xT|refine And.intro ?_ ?_|exact .inr rfl|trivial|exact .inr (aM rfl)));done
  ·(try dsimp only);(exact⟨by omega,oW (by omega)⟩)
  ·(try simp only[]);omega)
 |(
  refine⟨(true,i+1,m2),?_,?_,?_⟩
  ·(try simp only[go_sem]);(try rw[aq (by omega) (by omega)]);(try simp only[cond_true,cond_false,List.cons_append,List.nil_append,List.append_nil,List.set_set]);(repeat'(first|exact .inr (xF (by decide))|exact .inr xT|refine And.intro ?_ ?_|exact .inr rfl|trivial|exact .inr (aM rfl)));done
  ·(try dsimp only);(exact⟨by omega,oW (by omega)⟩)
  ·(try simp only[]);omega)
 |(
  refine aa.ret ?_
  refine az.is ?_;simp only[go_sem,aB,aE,aF,aA,aC,aD]<;>(first|(rw[vJ ha hx0 hcf hop hsn];simp[cf];done)|skip))
 |(refine aa.ret ?_;refine bG.ret rfl ?_;simp only[go_sem,ha])
 |(refine aa.ret ?_;simp only[fU,fJ];refine bG.ret rfl ?_;simp only[go_sem,ha])
 |(refine aj.of ?_;simp only[go_sem,ha])
 |((fail_if_success(have:=hbb));(with_reducible intro bb hbb))
 |(exfalso;omega)
 |refine aa.fin (by assumption) ?_)
theorem Q0(g:Gt)(n:Int)(x:Ex)(hg:bO g):ae E 30 [aL g,i64 n,an x] (fun r t=>r= .ax [aL (cj g n x).1,i64 (cj g n x).2.1,i64 (cj g n x).2.2]∧t=[]):=by
 cases ha:ba g n with
 |false=>rw[uX ha];exact Kj g n x hg ha
 |true=>
  obtain⟨k,w,rfl,hx⟩:=gw ha
  obtain⟨nb,kk,hcf⟩:∃nb kk,aY w.book x=(nb,kk):=⟨_,_,rfl⟩
  by_cases h1:kk=1
  ·subst h1
   by_cases ho:x.kind=1∨x.kind=4
   ·cases hs:eB w.ar x with
    |none=>exact wW g k w x hg hx ha nb 1 hcf (.inl rfl) ho hs
    |some p=>exact Wf g k w x hg hx ha nb p hcf ho hs
   ·exact Wc g k w x hg hx ha nb hcf ho
  ·by_cases h3:kk=3
   ·subst h3
    by_cases ho:x.kind=1∨x.kind=4
    ·cases hs:eB w.ar x with
     |none=>exact wW g k w x hg hx ha nb 3 hcf (.inr rfl) ho hs
     |some p=>exact vN g k w x hg hx ha nb p hcf (fun _=>hs)
    ·exact vN g k w x hg hx ha nb 0 hcf (fun h=>absurd h ho)
   ·exact Rg g k w x hg hx ha nb kk hcf ⟨h1,h3⟩
end Go.Proofs.YtajeeghgiilhiaaGreat
end
section
namespace Go.Bk
open Go Go.Abs
theorem xj(l:List Po):(kE l).Perm l:=by
 obtain⟨hp,_⟩:=Go.Stb.yA sZ l.toArray
 have:=hp.2.2
 rw[show(Go.Stb.iE aJ l.toArray).extract 0 l.toArray.size=Go.Stb.iE aJ l.toArray by rw[←hp.1];simp,show l.toArray.extract 0 l.toArray.size=l.toArray by simp] at this
 exact this
theorem rE(l:List Po):(kE l).length=l.length:=(xj l).length_eq
theorem OM(l:List Po):(kE l).Pairwise (fun p q=>aJ q p=false):=by
 obtain⟨hp,hs⟩:=Go.Stb.yA sZ l.toArray
 rw[List.pairwise_iff_getElem]
 intro i j hi hj hij
 unfold kE at *
 rw[Array.length_toList] at hi hj
 have:=hs i j (by omega) hij (by rw[←hp.1];exact hj)
 rwa[getElem!_pos _ i hi,getElem!_pos _ j hj] at this
theorem sj{ls:List (List Po)}(h:ls.all ck=true):iI (dv ls).1 ls.flatten:=by
 unfold dv;rw[if_pos h]
 exact(wv _ _ (by rw[rE];exact Nat.le_refl _) (OM _)).perm (xj _)
theorem po{ls:List (List Po)}(h:¬ls.all ck=true):dv ls=([],1):=by unfold dv;rw[if_neg h]
theorem qo{ls:List (List Po)}(h:ls.all ck=true):(dv ls).2=0:=by unfold dv;rw[if_pos h]
def iD(a b:List Po):List Po×Int:=if(dv [a,b]).2≠0 then([],(dv [a,b]).2) else if(dv [a,b]).1.any (·.over) then([],9) else((dv [a,b]).1,0)
theorem zz:∀{l:List Po},ck l=true→∀p∈l,cW p=true
 |p::l,h,q,hq=>by
  simp only[ck,Bool.and_eq_true] at h
  rcases List.mem_cons.1 hq with rfl|hq
  ·exact h.1.1
  ·exact zz h.2 q hq
theorem oG:∀{l:List Po},ck l=true→hZ l
 |[],_=>List.Pairwise.nil
 |[p],_=>List.pairwise_singleton ..
 |p::q::l,h=>by
  simp only[ck,Bool.and_eq_true] at h
  have ih:hZ (q::l):=oG (by simp only[ck,Bool.and_eq_true];exact h.2)
  refine List.pairwise_cons.2 ⟨fun x hx=>?_,ih⟩
  rcases List.mem_cons.1 hx with rfl|hx
  ·exact h.1.2
  ·exact kU h.1.2 ((List.pairwise_cons.1 ih).1 x hx)
theorem rQ{l:List Po}(h:hZ l){p:Po}(hp:p∈l):dG (aI p) l=[p]:=by
 induction l with
 |nil=>exact absurd hp (by simp)
 |cons q l ih=>
  obtain⟨h1,h2⟩:=List.pairwise_cons.1 h
  rcases List.mem_cons.1 hp with rfl|hp
  ·unfold dG
   rw[List.filter_cons_of_pos (by simp),List.filter_eq_nil_iff.2]
   intro x hx
   have:=h1 x hx
   simp only[decide_eq_true_eq]
   intro e
   unfold aJ at this;rw[e,jE] at this;exact absurd this (by simp)
  ·unfold dG
   rw[List.filter_cons_of_neg]
   ·exact ih h2 hp
   ·have:=h1 p hp
    simp only[decide_eq_true_eq]
    intro e
    unfold aJ at this;rw[e,jE] at this;exact absurd this (by simp)
def gW(l:List Po)(n:Nm):Int:=bp ((dG n l).map (·.al))
def hX(l:List Po)(n:Nm):Int:=bp ((dG n l).map (·.value))
theorem Hk(a b:List Po)(n:Nm):gW (a++b) n=gW a n+gW b n:=by simp[gW,dG,lK]
theorem Py(a b:List Po)(n:Nm):hX (a++b) n=hX a n+hX b n:=by simp[hX,dG,lK]
theorem rR{l:List Int}(h:(bu l).2=true):(bu l).1=bp l:=by
 unfold bu at *
 split
 ·rfl
 ·rename_i h2;rw[if_neg h2] at h;exact absurd h (by simp)
theorem Gw{l:List Po}{n:Nm}(h:(dR l n).over=false):dR l n=⟨n.1,n.2,gW l n,hX l n,false⟩:=by
 unfold dR dQ at *
 split at h
 ·exact absurd h (by simp)
 ·rename_i h1
  rw[if_neg h1]
  split at h
  ·rename_i h2
   rw[if_pos h2]
   simp only[Bool.and_eq_true] at h2
   rw[rR h2.1,rR h2.2];rfl
  ·exact absurd h (by simp)
theorem NY{l all:List Po}(hm:iI l all)(ho:∀p∈l,p.over=false)(n:Nm):gW l n=gW all n∧hX l n=hX all n∧((∃q∈l,aI q=n)↔∃q∈all,aI q=n):=by
 by_cases h:∃q∈all,aI q=n
 ·have hin:dR all n∈l:=(hm.mem _).2 ⟨by rw[l9];exact h,by rw[l9]⟩
  have e:=Gw (ho _ hin)
  have hs:=rQ hm.ia hin
  rw[l9] at hs
  refine⟨?_,?_,?_⟩
  ·unfold gW at *;rw[hs,e];simp[bp,gW]
  ·unfold hX at *;rw[hs,e];simp[bp,hX]
  ·exact⟨fun _=>h,fun _=>⟨_,hin,l9⟩⟩
 ·have h2:∀q∈l,aI q≠n:=fun q hq e=>by
   obtain⟨⟨r,hr,e2⟩,_⟩:=(hm.mem q).1 hq
   exact h ⟨r,hr,e2.trans e⟩
  have s1:dG n l=[]:=List.filter_eq_nil_iff.2 fun q hq=>by simpa using h2 q hq
  have s2:dG n all=[]:=List.filter_eq_nil_iff.2 fun q hq=>by
   simp only[decide_eq_true_eq];intro e;exact h ⟨q,hq,e⟩
  refine⟨by unfold gW;rw[s1,s2],by unfold hX;rw[s1,s2],?_⟩
  exact⟨fun⟨q,hq,e⟩=>absurd e (h2 q hq),fun h3=>absurd h3 h⟩
theorem EU{a b:List Po}(h:(iD a b).2=0):iI (iD a b).1 (a++b)∧∀p∈(iD a b).1,p.over=false:=by
 unfold iD at *
 by_cases hr:[a,b].all ck=true
 ·rw[if_neg (by rw[qo hr];simp)] at *
  by_cases ho:(dv [a,b]).1.any (·.over)=true
  ·rw[if_pos ho] at h;exact absurd h (by simp)
  ·rw[if_neg ho]
   have:=sj hr
   simp only[List.flatten_cons,List.flatten_nil,List.append_nil] at this
   refine⟨this,fun p hp=>?_⟩
   simp only[List.any_eq_true,not_exists,not_and,Bool.not_eq_true] at ho
   exact ho p hp
 ·rw[if_pos (by rw[po hr];simp),po hr] at h
  exact absurd h (by simp)
def jk(l:List Po)(k:Nat):Bool:=match l[k]? with
 |some x=>cW x&&(k==0||match l[k-1]? with
  |some y=>aJ y x
  |none=>true)
 |none=>true
theorem js{l:List Po}{k:Nat}{x:Po}(h:l[k]?=some x):jk l k=(cW x&&(k==0||match l[k-1]? with
 |some y=>aJ y x
 |none=>true)):=by unfold jk;rw[h]
theorem tW:∀{l:List Po},ck l=true↔∀k,k<l.length→jk l k=true
 |[]=>by simp[ck]
 |p::l=>by
  show(cW p&&(match l with|[]=>true|q::_=>aJ p q)&&ck l)=true↔_
  rw[Bool.and_eq_true,Bool.and_eq_true,tW (l:=l)]
  constructor
  ·rintro⟨⟨h1,h2⟩,h3⟩ k hk
   cases k with
   |zero=>rw[js (x:=p) rfl,h1];rfl
   |succ k=>
    have hk':k<l.length:=by simpa using hk
    obtain⟨x,hx⟩:∃x,l[k]?=some x:=⟨_,List.getElem?_eq_getElem hk'⟩
    have h4:=h3 k hk'
    rw[js hx] at h4
    rw[js (l:=p::l) (k:=k+1) (x:=x) (by simpa using hx)]
    rw[Bool.and_eq_true] at h4 ⊢
    refine⟨h4.1,?_⟩
    cases k with
    |zero=>
     cases l with
     |nil=>exact absurd hk' (by simp)
     |cons q l=>
      simp only[List.getElem?_cons_zero,Option.some.injEq] at hx
      subst hx
      simpa using h2
    |succ k=>simpa using h4.2
  ·intro h
   have h0:=h 0 (by simp)
   rw[js (x:=p) rfl,Bool.and_eq_true] at h0
   refine⟨⟨h0.1,?_⟩,fun k hk=>?_⟩
   ·cases l with
    |nil=>rfl
    |cons q l=>
     have h1:=h 1 (by simp)
     rw[js (x:=q) rfl,Bool.and_eq_true] at h1
     simpa using h1.2
   ·obtain⟨x,hx⟩:∃x,l[k]?=some x:=⟨_,List.getElem?_eq_getElem hk⟩
    have h1:=h (k+1) (by simpa using hk)
    rw[js (l:=p::l) (k:=k+1) (x:=x) (by simpa using hx),Bool.and_eq_true] at h1
    rw[js hx,Bool.and_eq_true]
    refine⟨h1.1,?_⟩
    cases k with
    |zero=>rfl
    |succ k=>simpa using h1.2
theorem pU{l:List Po}{k:Nat}{x:Po}(hx:l[k]?=some x)(h:jk l k=false):ck l=false:=by
 cases e:ck l with
 |false=>rfl
 |true=>exact absurd (tW.1 e k (bI hx)) (by rw[h];simp)
theorem xL{l:List Po}{i:Nat}(hi:l.length≤i)(h:∀k,k<i→jk l k=true):ck l=true:=tW.2 fun k hk=>h k (by omega)
theorem Af{l:List Po}{k:Nat}{x:Po}(hx:l[k]?=some x)(h:cW x=false):jk l k=false:=by rw[js hx,h];rfl
theorem Cg{l:List Po}{k:Nat}{x y:Po}(hx:l[k]?=some x)(hk:0<k)(hy:l[k-1]?=some y)(h:0≤ee (aI y) (aI x)):jk l k=false:=by
 rw[js hx,hy]
 have e1:(k==0)=false:=by simp;omega
 have e2:aJ y x=false:=by unfold aJ cR;exact decide_eq_false (by omega)
 dsimp only
 rw[e1,e2];simp
theorem yJ{l:List Po}{k:Nat}{x:Po}(hx:l[k]?=some x)(hk:k=0)(h:cW x=true):jk l k=true:=by rw[js hx,h,hk];rfl
theorem zu{l:List Po}{k:Nat}{x y:Po}(hx:l[k]?=some x)(hy:l[k-1]?=some y)(h:cW x=true)(h2:ee (aI y) (aI x)<0):jk l k=true:=by
 have e2:aJ y x=true:=by unfold aJ cR;exact decide_eq_true h2
 rw[js hx,h,hy]
 dsimp only
 rw[e2];simp
theorem xy{x:Po}(h:aS x.al=false):cW x=false:=by simp[cW,h]
theorem wi{x:Po}(h:aS x.value=false):cW x=false:=by simp[cW,h]
theorem pQ{x:Po}(h:x.over=true)(h2:¬x.al=0∨¬x.value=0):cW x=false:=by
 rcases h2 with h2|h2<;>simp[cW,h,h2]
theorem ra{x:Po}(h1:aS x.al=true)(h2:aS x.value=true)(h:x.over=false):cW x=true:=by simp[cW,h,h1,h2]
theorem rU{x:Po}(h1:aS x.al=true)(h2:aS x.value=true)(h3:x.al=0)(h4:x.value=0):cW x=true:=by
 obtain⟨a,s,q,v,o⟩:=x
 simp only[cW] at *
 subst h3;subst h4;simp[h1]
theorem Zl{l:List Po}{i:Nat}{x:Po}{n:Nm}(hx:l[i]?=some x)(hn:∀k y,k<i→l[k]?=some y→¬(y.acc=n.1∧y.sym=n.2))(h:x.acc=n.1∧x.sym=n.2):dK l n=x:=by
 have:l.find? (fun p=>decide (aI p=n))=some x:=by
  rw[List.find?_eq_some_iff_getElem]
  obtain⟨hi,rfl⟩:=List.getElem?_eq_some_iff.1 hx
  refine⟨by simp only[decide_eq_true_eq];exact Prod.ext h.1 h.2,i,hi,rfl,fun j hj=>?_⟩
  have:=hn j l[j] hj (List.getElem?_eq_getElem _)
  simp only[Bool.not_eq_true',decide_eq_false_iff_not]
  intro e
  exact this ⟨congrArg Prod.fst e,congrArg Prod.snd e⟩
 unfold dK;rw[this]
theorem uk{l:List Po}{a s:Bs}{i:Nat}{x:Po}(hn:∀k y,k<i→l[k]?=some y→¬(y.acc=a∧y.sym=s))(hx:l[i]?=some x)(h:¬(x.acc=a∧x.sym=s)):∀k y,k<i+1→l[k]?=some y→¬(y.acc=a∧y.sym=s):=fun k y hk hy=>by
 rcases Nat.lt_or_ge k i with h'|h'
 ·exact hn k y h' hy
 ·have:k=i:=by omega
  subst this;rw[hx] at hy;cases hy;exact h
theorem Nj{n:Nm}{l:List Po}{i:Nat}{x:Po}(hx:l[i]?=some x)(h:x.over=true):dQ n l=⟨n.1,n.2,0,0,true⟩:=by
 unfold dQ;rw[if_pos (List.any_eq_true.2 ⟨x,List.mem_of_getElem? hx,h⟩)]
theorem BA{n:Nm}{l:List Po}{i:Nat}{qs vs:List Int}(hi:l.length≤i)(hq:qs=(l.take i).map (·.al))(hv:vs=(l.take i).map (·.value))(ho:(l.take i).any (·.over)=false):dQ n l=if(bu qs).2&&(bu vs).2 then⟨n.1,n.2,(bu qs).1,(bu vs).1,false⟩ else⟨n.1,n.2,0,0,true⟩:=by
 rw[List.take_of_length_le hi] at *
 unfold dQ;rw[if_neg (by rw[ho];simp),←hq,←hv]
theorem MK{l:List Po}{i:Nat}{x:Po}(hx:l[i]?=some x)(h:(l.take i).any (·.over)=false)(h2:x.over=false):(l.take (i+1)).any (·.over)=false:=by
 rw[cp hx,List.any_append,h];simp[h2]
theorem Bu:∀(k k':Nat) (l:List Po),l.length≤k→l.length≤k'→fW k l=fW k' l
 |0,0,_,_,_=>rfl
 |0,k'+1,[],_,_=>rfl
 |k+1,0,[],_,_=>rfl
 |0,_+1,_::_,h,_=>absurd h (by simp)
 |_+1,0,_::_,_,h=>absurd h (by simp)
 |k+1,k'+1,[],_,_=>rfl
 |k+1,k'+1,p::l,h,h'=>by
  rw[fW,fW,Bu k k']
  ·have:=(List.dropWhile_sublist (fun q=>decide (aI q=aI p)) (l:=l)).length_le
   simp only[List.length_cons] at h;omega
  ·have:=(List.dropWhile_sublist (fun q=>decide (aI q=aI p)) (l:=l)).length_le
   simp only[List.length_cons] at h';omega
def kV(l:List Po):List Po:=fW l.length l
abbrev cL(p:Po):Po→Bool:=fun q=>decide (aI q=aI p)
theorem TQ{p:Po}{l:List Po}:kV (p::l)=dQ (aI p) (p::l.takeWhile (cL p))::kV (l.dropWhile (cL p)):=by
 unfold kV
 show fW (l.length+1) (p::l)=_
 rw[fW]
 congr 1
 refine Bu _ _ _ ?_ (Nat.le_refl _)
 exact(List.dropWhile_sublist _).length_le
theorem Ry{ls:List (List Po)}(h:ls.all ck=true):dv ls=(kV (kE ls.flatten),0):=by
 unfold dv kV;rw[if_pos h,rE]
theorem B9{p:Po}{r:List Po}(k:Nat):r[k]?=(r.takeWhile (cL p)++r.dropWhile (cL p))[k]?:=by rw[List.takeWhile_append_dropWhile]
theorem vR{p:Po}{r:List Po}:∃s t,r=s++t∧s=r.takeWhile (cL p)∧t=r.dropWhile (cL p):=⟨_,_,List.takeWhile_append_dropWhile.symm,rfl,rfl⟩
theorem Wt{p y:Po}{r:List Po}{n:Nat}(h1:1≤n)(hn:n≤1+(r.takeWhile (cL p)).length)(hy:(p::r)[n]?=some y)(h:ee (aI p) (aI y)=0):n+1≤1+(r.takeWhile (cL p)).length:=by
 obtain⟨k,rfl⟩:∃k,n=k+1:=⟨n-1,by omega⟩
 rw[List.getElem?_cons_succ] at hy
 rcases Nat.lt_or_ge k (r.takeWhile (cL p)).length with h2|h2
 ·omega
 ·exfalso
  have hk:k=(r.takeWhile (cL p)).length:=by omega
  have hd:(r.dropWhile (cL p))[0]?=some y:=by
   rw[←hy,hk]
   have e:=B9 (p:=p) (r:=r) (r.takeWhile (cL p)).length
   rw[e,List.getElem?_append_right (Nat.le_refl _),Nat.sub_self]
  have:=List.head?_dropWhile_not (cL p) r
  rw[List.head?_eq_getElem?,hd] at this
  simp only[cL,decide_eq_false_iff_not] at this
  exact this (vA.1 h).symm
theorem VS{p y:Po}{r:List Po}{n:Nat}(h1:1≤n)(hn:n≤1+(r.takeWhile (cL p)).length)(hy:(p::r)[n]?=some y)(h:¬ee (aI p) (aI y)=0):n=1+(r.takeWhile (cL p)).length:=by
 obtain⟨k,rfl⟩:∃k,n=k+1:=⟨n-1,by omega⟩
 rw[List.getElem?_cons_succ] at hy
 rcases Nat.lt_or_ge k (r.takeWhile (cL p)).length with h2|h2
 ·exfalso
  have ht:(r.takeWhile (cL p))[k]?=some y:=by
   rw[←hy,B9 (p:=p) (r:=r) k,List.getElem?_append_left h2]
  have:=List.all_eq_true.1 (List.all_takeWhile (p:=cL p) (l:=r)) y (List.mem_of_getElem? ht)
  simp only[cL,decide_eq_true_eq] at this
  exact h (vA.2 this.symm)
 ·omega
theorem UE{p:Po}{r:List Po}{n:Nat}(hn:n≤1+(r.takeWhile (cL p)).length)(h:(p::r).length≤n):n=1+(r.takeWhile (cL p)).length:=by
 have:=(List.takeWhile_sublist (cL p) (l:=r)).length_le
 simp only[List.length_cons] at h;omega
theorem Qc{p:Po}{r:List Po}:(p::r).take (1+(r.takeWhile (cL p)).length)=p::r.takeWhile (cL p):=by
 rw[Nat.add_comm,List.take_succ_cons]
 congr 1
 obtain⟨s,t,h,hs,ht⟩:=vR (p:=p) (r:=r)
 rw[←hs];rw[h];simp
theorem P9{p:Po}{r:List Po}:(p::r).drop (1+(r.takeWhile (cL p)).length)=r.dropWhile (cL p):=by
 rw[Nat.add_comm,List.drop_succ_cons]
 obtain⟨s,t,h,hs,ht⟩:=vR (p:=p) (r:=r)
 rw[←hs,←ht];rw[h];simp
theorem Aw{p:Po}{r:List Po}:1+(r.takeWhile (cL p)).length≤(p::r).length:=by
 have:=(List.takeWhile_sublist (cL p) (l:=r)).length_le
 simp only[List.length_cons];omega
theorem oh{ls:List (List Po)}{i:Nat}{l:List Po}(h:ls[i]?=some l):(ls.take (i+1)).flatten=(ls.take i).flatten++l:=by rw[cp h];simp
theorem nD{ls:List (List Po)}{i:Nat}:(ls.take i).flatten.length≤ls.flatten.length:=by
 have h:ls.flatten=(ls.take i).flatten++(ls.drop i).flatten:=by rw[←List.flatten_append,List.take_append_drop]
 rw[h,List.length_append];omega
theorem pI{ls:List (List Po)}{i:Nat}{l:List Po}(h:ls[i]?=some l):l.length≤ls.flatten.length:=by
 have h1:=oh h
 have h2:=nD (ls:=ls) (i:=i+1)
 rw[h1,List.length_append] at h2;omega
theorem yB{ls:List (List Po)}{i:Nat}{l:List Po}(h:ls[i]?=some l)(h1:(ls.take i).all ck=true)(h2:ck l=true):(ls.take (i+1)).all ck=true:=by
 rw[cp h,List.all_append,h1];simp[h2]
theorem vU{ls:List (List Po)}{i:Nat}{l:List Po}(h:ls[i]?=some l)(h2:ck l=false):dv ls=([],1):=po fun e=>by
 have:=List.all_eq_true.1 e l (List.mem_of_getElem? h)
 rw[h2] at this;exact absurd this (by simp)
theorem uL{ls:List (List Po)}{i:Nat}(hi:ls.length≤i)(h:(ls.take i).all ck=true):ls.all ck=true:=by rwa[List.take_of_length_le hi] at h
end Go.Bk
end
