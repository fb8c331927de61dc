/- Texts of one chain, put together (T1, T2, T3, T4). -/
import Derived.Test.YtajeeghgiilhiaaGreatKxJ
import Derived.Test.YtajeeghgiilhiaaGreatKxM
import Derived.Test.YtajeeghgiilhiaaGreatKxL
import Derived.Test.YtajeeghgiilhiaaGreatKxK
import Derived.Test.YtajeeghgiilhiaaGreatKxO
import Derived.Test.YtajeeghgiilhiaaGreatKxI
import Derived.Test.YtajeeghgiilhiaaGreatKxA
set_option linter.unusedVariables false
set_option linter.unusedSimpArgs false
set_option maxHeartbeats 16000000
set_option maxRecDepth 8000
section
namespace Go.Proofs.YtajeeghgiilhiaaGreat
open Go Go.Abs Go.RowKit Go.Bk
theorem mZ{α:Type}{l:List α}{i:Nat}{x:α}(h:l[i]?=some x):l.set i x=l:=by
 obtain⟨hi,rfl⟩:=List.getElem?_eq_some_iff.1 h
 exact List.set_getElem_self hi
def aU(d:Array Po)(m:Nat):List AV:=d.toList.map bL++spare 5 m
theorem fp{d:Array Po}{m i:Nat}(h:i<d.size):(aU d m)[i]?=some (bL d[i]!):=by
 unfold aU
 rw[List.getElem?_append_left (by simpa using h),List.getElem?_map,Array.getElem?_toList,Array.getElem?_eq_getElem h,getElem!_pos d i h];rfl
theorem nZ{d:Array Po}{m i:Nat}{x:Po}(h:i<d.size):(aU d m).set i (bL x)=aU (d.setIfInBounds i x) m:=by
 unfold aU
 rw[List.set_append_left _ _ (by simpa using h),Array.toList_setIfInBounds,List.map_set]
theorem sw{d:Array Po}{m i j:Nat}(hi:i<d.size)(hj:j<d.size):((aU d m).set i (bL d[j]!)).set j (bL d[i]!)=aU (Go.Sort.swp d i j) m:=by
 rw[nZ hi,nZ (by rw[Array.size_setIfInBounds];exact hj)];rfl
theorem mU{no nt:Nat}(d:Array Po)(m:Nat):∀e∈aU d m,∀z∈e.leaves,z.bO no nt=true:=by
 unfold aU
 exact mY (f:=bL) (l:=d.toList) (fun x z hz=>by
  simp only[AV.leaves,List.mem_cons,List.not_mem_nil,or_false] at hz
  rcases hz with rfl|rfl|rfl|rfl|rfl<;>rfl) _ rfl
section
variable{u v n i j lo hi mi:Nat}{d:Array Po}
theorem Hg(h:i<n):Go.Stb.dV u v n i d=Go.Stb.dV u v n (i+1) (Go.Sort.swp d (u+i) (v+i)):=by
 rw[Go.Stb.dV,if_pos h]
theorem Ob(h:n≤i):Go.Stb.dV u v n i d=d:=by
 rw[Go.Stb.dV,if_neg ab]
theorem Mq(h1:0<j)(h:j<i):Go.Stb.er mi i j d=Go.Stb.er mi (i-j) j (Go.Stb.dV (mi-i) mi j 0 d):=by
 rw[Go.Stb.er,dif_neg ab,if_neg ab,if_pos h]
theorem Tx(h1:0<i)(h:i<j):Go.Stb.er mi i j d=Go.Stb.er mi i (j-i) (Go.Stb.dV (mi-i) (mi+j-i) i 0 d):=by
 rw[Go.Stb.er,dif_neg ab,if_neg ab,if_neg ab]
theorem PJ(h1:0<i)(h:i=j):Go.Stb.er mi i j d=Go.Stb.dV (mi-i) mi i 0 d:=by
 rw[Go.Stb.er,dif_neg ab,if_pos h]
theorem Ie(h:i<hi):Go.Sort.insOuter aP lo hi i d=Go.Sort.insOuter aP lo hi (i+1) (Go.Sort.insInner aP lo i d):=by
 rw[Go.Sort.insOuter,if_pos h]
theorem Dq(h:hi≤i):Go.Sort.insOuter aP lo hi i d=d:=by
 rw[Go.Sort.insOuter,if_neg ab]
theorem Hi(h:j≤lo):Go.Sort.insInner aP lo j d=d:=by
 cases j with
 |zero=>rfl
 |succ j=>rw[Go.Sort.insInner,if_neg (by simp;omega)]
theorem qT{p q:Po}:aP p q=true↔eA (aN p) (aN q)<0:=by unfold aP db;exact decide_eq_true_iff
theorem ET(h:¬eA (aN d[j]!) (aN d[j-1]!)<0):Go.Sort.insInner aP lo j d=d:=by
 cases j with
 |zero=>rfl
 |succ j=>
  rw[Go.Sort.insInner,if_neg]
  rw[←qT] at h
  simp only[Nat.add_sub_cancel] at h
  simp[h]
theorem Sk(h:lo<j)(hl:eA (aN d[j]!) (aN d[j-1]!)<0):Go.Sort.insInner aP lo j d=Go.Sort.insInner aP lo (j-1) (Go.Sort.swp d j (j-1)):=by
 cases j with
 |zero=>omega
 |succ j=>
  rw[←qT] at hl
  simp only[Nat.add_sub_cancel] at hl ⊢
  rw[Go.Sort.insInner,if_pos (by simp[hl];omega)]
end
theorem Gu(x y:Int):ai E 131 [.sl none 1 [i64 x,i64 y]] (fun r t=>r=i64 (if x≠0 then x else y)∧t=[]):=by
 refine ai.aw (n:=18) (rs:=[.tmp 2]) Tryz.func131 rfl Tryz.ntmps131 rfl ?_
 repeat'(first
 |refine aa.aj fun K hK=>?_
 |(
  refine aa.here 4 10 3 rfl ?_
  obtain⟨z,hz2,hzz⟩:∃z,([i64 x,i64 y]:List AV)[i]?=some (i64 z)∧(i=0∧z=x∨i=1∧z=y):=by
   rcases i with _|_|i
   ·exact⟨x,rfl,.inl ⟨rfl,rfl⟩⟩
   ·exact⟨y,rfl,.inr ⟨rfl,rfl⟩⟩
   ·exfalso;omega
  refine aa.region ?_;simp only[go_sem,hz2])
 |(refine aa.region ?_;simp only[go_sem])
 |(refine hK _ ?_;clear hK K)
 |refine aa.block ?_
 |refine aa.cond rfl (fun c=>?_) (fun c=>?_)<;>(try simp only[dD] at c)
 |refine aa.skip ?_
 |(refine aa.exit ?_;simp only[go_sem])
 |((with_reducible refine And.intro ?_ ?_);(focus((simp;done)));(try simp only[hb,go_sem]))
 |(
  refine aa.here 3 9 1 rfl ?_
  refine aa.cC (ι:=Nat) [2,5,9,10,11,12,13,14,15,16] (fun(i:Nat)=>[(8,i64 i)]) (fun(i:Nat)=>i≤2∧(0<i→x=0)∧(1<i→y=0)) (fun(i:Nat)=>2-i) (0) ?_ ?_ ?_
  ·(try simp only[go_sem]);(repeat'(first|fail));done
  ·exact⟨by omega,by omega,by omega⟩
  rintro i ⟨h1,h2,h3⟩
  simp only[go_sem])
 |(
  refine⟨i+1,?_,?_,?_⟩
  ·(try simp only[go_sem]);(try rw[av ab ab]);(repeat'(exact .inr rfl));done
  ·(rcases hzz with⟨rfl,rfl⟩|⟨rfl,rfl⟩<;>exact⟨by omega,by intros;first|assumption|omega,by intros;first|assumption|omega⟩)
  ·(try simp only[]);omega)
 |(
  refine aa.ret ?_
  refine aB.is ?_;simp only[go_sem,aE,aI,aH,aG,aJ,aF]<;>(first|(rcases hzz with⟨rfl,rfl⟩|⟨rfl,rfl⟩<;>simp_all;done)|(have e1:=h2 ab;have e2:=h3 ab;subst e1;subst e2;rfl)))
 |refine aa.fin ae ?_)
theorem ri(p q:Po):ai E 104 [bL p,bL q] (fun r t=>r=i64 (eA (aN p) (aN q))∧t=[]):=by
 refine ai.aw (n:=17) (rs:=[.tmp 4]) Tryz.func104 rfl Tryz.ntmps104 rfl ?_
 repeat'(first
 |refine aa.aj fun K hK=>?_
 |(refine aa.region ?_;simp only[go_sem])
 |(refine aa.here 1 5 13 rfl ?_;refine aa.bf [0,1,2,3,5,6,7,8,4,9,10,11,12] [] af af rfl ?_;simp only[go_sem])
 |(refine hK _ ?_;clear hK K)
 |(refine ah.one (vo p.acc q.acc) af rfl ?_;simp only[go_sem])
 |(refine ah.one (vo p.sym q.sym) af rfl ?_;simp only[go_sem])
 |(refine ah.one (Gu (gC p.acc q.acc) (gC p.sym q.sym)) af rfl ?_;simp only[go_sem])
 |(
  refine aa.ret ?_
  refine aB.is ?_;simp only[go_sem,aE,aI,aH,aG,aJ,aF]<;>(rfl)))
set_option maxRecDepth 100000 in
theorem tY{ops:Array Oper}{l0:List Oper}{Q:Exit→St→Prop}{tmps up:List AV}{gl:Nat→Option (List AV)}{own:List (Option (List AV))}{tk:List Nat}{dst:Option Tmp}{x0 x1 x2 x3 x4:Operand}{tys:Array TypeId}{ty:TypeId}{pos:String}{after:Array Edge}{id m N:Nat}{d:Array Po}{u v n:Nat}
 (hx0:St.ev ⟨tmps,own,tk,gl,none,up⟩ x0= .mu id 5 0 N (N+m))
 (hx1:St.ev ⟨tmps,own,tk,gl,none,up⟩ x1=i64 (u:Int))
 (hx2:St.ev ⟨tmps,own,tk,gl,none,up⟩ x2=i64 (v:Int))
 (hx3:St.ev ⟨tmps,own,tk,gl,none,up⟩ x3=i64 (n:Int))
 (hx4:St.ev ⟨tmps,own,tk,gl,none,up⟩ x4= .fn 104 [])
 (ho:own[id]?=some (some (aU d m)))
 (hbu:(tmps++up).all (AV.bO own.length tk.length)=true)
 (hbo:bu own own.length tk.length)
 (hl:N≤1000000)
 (hN:d.size=N)
 (hu:u+n≤N)
 (hv:v+n≤N)
 (hend:an E ops l0 Q (St.put ⟨tmps,own.set id (some (aU (Go.Stb.dV u v n 0 d) m)),tk,gl,none,up⟩ dst (.aC []))):an E ops (⟨dst,.call ⟨.value (.func 259),#[x0,x1,x2,x3,x4],tys⟩,ty,pos,after,none⟩::l0) Q ⟨tmps,own,tk,gl,none,up⟩:=by
 have hid:=bN ho
 obtain⟨ow,how⟩:∃ow:List (Option (List AV)),own=ow.set id (some (aU d m)):=⟨own,(mZ ho).symm⟩
 subst how
 rw[List.length_set] at hid
 have hob:∀d':Array Po,bu (ow.set id (some (aU d' m))) ow.length tk.length:=fun d'=>by
  have:=hbo.set (id:=id) (mU d' m);rwa[List.set_set,List.length_set] at this
 have hob2:∀d':Array Po,bu (ow.set id (some (aU d' m))) (ow.set id (some (aU d' m))).length tk.length:=fun d'=>by rw[List.length_set];exact hob d'
 rw[List.length_set] at hbu
 simp only[List.set_set] at hend
 refine an.call (caps:=[]) (rs:=[]) Tryz.func259 rfl Tryz.ntmps259 rfl af rfl rfl ?_
 show aa E _ _ ⟨([St.ev _ x0,St.ev _ x1,St.ev _ x2,St.ev _ x3,St.ev _ x4]++[])++List.replicate (38-5) (.v undef),_,tk,gl,none,tmps++up⟩
 rw[hx0,hx1,hx2,hx3,hx4]
 have hBn:∀(tm:List AV) (d':Array Po),d'=Go.Stb.dV u v n 0 d→bR E.P [] ⟨tmps,ow.set id (some (aU d m)),tk,gl,none,up⟩ (fun s z=>an E ops l0 Q (s.put dst z)) .normal ⟨tm,ow.set id (some (aU d' m)),tk,gl,none,tmps++up⟩:=fun tm d' e=>by subst e;exact⟨rfl,hend⟩
 have hBr:∀(tm:List AV) (d':Array Po),d'=Go.Stb.dV u v n 0 d→bR E.P [] ⟨tmps,ow.set id (some (aU d m)),tk,gl,none,up⟩ (fun s z=>an E ops l0 Q (s.put dst z)) .ret ⟨tm,ow.set id (some (aU d' m)),tk,gl,none,tmps++up⟩:=fun tm d' e=>by subst e;exact⟨rfl,hend⟩
 generalize bR E.P [] ⟨tmps,ow.set id (some (aU d m)),tk,gl,none,up⟩ (fun s z=>an E ops l0 Q (s.put dst z))=Q1 at hBn hBr ⊢
 generalize tmps++up=up' at hbu hBn hBr ⊢
 clear hend ho hbo hx0 hx1 hx2 hx3 hx4
 have hset:∀x,(ow.set id x)[id]?=some x:=fun x=>List.getElem?_set_self hid
 repeat'(first
 |refine aa.aj fun K hK=>?_
 |(
  refine aa.here 3 16 24 rfl ?_
  have w1:IntKind.i64.wrap ((u:Int)+i)=((u+i:Nat):Int):=by rw[av ab ab];omega
  have w2:IntKind.i64.wrap ((v:Int)+i)=((v+i:Nat):Int):=by rw[av ab ab];omega
  have g1:(aU e m)[u+i]?=some (bL e[u+i]!):=fp ab
  have g2:(aU e m)[v+i]?=some (bL e[v+i]!):=fp ab
  have g3:((aU e m).set (u+i) (bL e[v+i]!))[v+i]?=some (bL (e.setIfInBounds (u+i) e[v+i]!)[v+i]!):=by rw[nZ ab];exact fp (by rw[Array.size_setIfInBounds];omega)
  have g4:((aU e m).set (u+i) (bL e[v+i]!)).set (v+i) (bL e[u+i]!)=aU (Go.Sort.swp e (u+i) (v+i)) m:=sw ab ab
  refine aa.bf [0,1,2,3,4,5,6,7,8,9,10,11,12,13,14,15,16,17,18,19,20,21,22,23] [] af af rfl ?_;simp only[go_sem,hset,List.set_set,List.length_set,w1,w2,g1,g2,g3,g4,Int.toNat_natCast,hset,List.set_set])
 |(refine aa.region ?_;simp only[go_sem,hset,List.set_set,List.length_set])
 |(refine hK _ ?_;clear hK K)
 |refine aa.block ?_
 |refine aa.cond rfl (fun c=>?_) (fun c=>?_)<;>(try simp only[dD] at c)
 |refine aa.skip ?_
 |(refine aa.exit ?_;simp only[go_sem,hset,List.set_set,List.length_set])
 |((with_reducible refine And.intro ?_ ?_);(focus(omega));(try simp only[hb,go_sem,hset,List.set_set,List.length_set]))
 |(
  refine aa.here 1 11 3 rfl ?_
  refine aa.ck (ι:=Nat×Array Po) [11,12,13,14,15,16,17,18,19,20,21,22,23,24,25,26,27,28,29,30,31,32,33,34,35,36,37] (fun⟨i,e⟩=>[(10,i64 i)]) (fun⟨i,e⟩=>ow.set id (some (aU e m))) (fun⟨i,e⟩=>tk) (fun⟨i,e⟩=>i≤n∧e.size=N∧Go.Stb.dV u v n i e=Go.Stb.dV u v n 0 d) (fun⟨i,e⟩=>n-i) ((0,d)) ?_ ?_ ?_
  ·(try simp only[go_sem]);(try simp only[List.set_set,List.length_set]);(repeat'(first|assumption|exact bu.wk (hob _)|exact dm|exact .inr (decide_eq_true hid)|refine And.intro ?_ ?_));done
  ·exact⟨by omega,hN,rfl⟩
  rintro⟨i,e⟩ ⟨h1,h2,h3⟩
  simp only[go_sem,hset,List.set_set,List.length_set])
 |(
  refine⟨(i+1,Go.Sort.swp e (u+i) (v+i)),?_,?_,?_⟩
  ·(try simp only[go_sem]);(try rw[av ab ab]);(try simp only[List.set_set,List.length_set]);(repeat'(first|assumption|exact bu.wk (hob _)|exact dm|exact .inr (decide_eq_true hid)|refine And.intro ?_ ?_|exact .inr rfl));done
  ·(try dsimp only);exact⟨by omega,by rw[Go.Sort.swp_size];exact h2,(Hg ab).symm.trans h3⟩
  ·(try simp only[]);omega)
 |(exact hBn _ _ (by rw[←h3,Ob ab])))
set_option maxRecDepth 100000 in
theorem VF{ops:Array Oper}{l0:List Oper}{Q:Exit→St→Prop}{tmps up:List AV}{gl:Nat→Option (List AV)}{own:List (Option (List AV))}{tk:List Nat}{dst:Option Tmp}{x0 x1 x2 x3 x4:Operand}{tys:Array TypeId}{ty:TypeId}{pos:String}{after:Array Edge}{id m N:Nat}{d:Array Po}{lo mi hi:Nat}
 (hx0:St.ev ⟨tmps,own,tk,gl,none,up⟩ x0= .mu id 5 0 N (N+m))
 (hx1:St.ev ⟨tmps,own,tk,gl,none,up⟩ x1=i64 (lo:Int))
 (hx2:St.ev ⟨tmps,own,tk,gl,none,up⟩ x2=i64 (mi:Int))
 (hx3:St.ev ⟨tmps,own,tk,gl,none,up⟩ x3=i64 (hi:Int))
 (hx4:St.ev ⟨tmps,own,tk,gl,none,up⟩ x4= .fn 104 [])
 (ho:own[id]?=some (some (aU d m)))
 (hbu:(tmps++up).all (AV.bO own.length tk.length)=true)
 (hbo:bu own own.length tk.length)
 (hl:N≤1000000)
 (hN:d.size=N)
 (h1:lo<mi)
 (h2:mi<hi)
 (h3:hi≤N)
 (hend:an E ops l0 Q (St.put ⟨tmps,own.set id (some (aU (Go.Stb.er mi (mi-lo) (hi-mi) d) m)),tk,gl,none,up⟩ dst (.aC []))):an E ops (⟨dst,.call ⟨.value (.func 252),#[x0,x1,x2,x3,x4],tys⟩,ty,pos,after,none⟩::l0) Q ⟨tmps,own,tk,gl,none,up⟩:=by
 have hid:=bN ho
 obtain⟨ow,how⟩:∃ow:List (Option (List AV)),own=ow.set id (some (aU d m)):=⟨own,(mZ ho).symm⟩
 subst how
 rw[List.length_set] at hid
 have hob:∀d':Array Po,bu (ow.set id (some (aU d' m))) ow.length tk.length:=fun d'=>by
  have:=hbo.set (id:=id) (mU d' m);rwa[List.set_set,List.length_set] at this
 have hob2:∀d':Array Po,bu (ow.set id (some (aU d' m))) (ow.set id (some (aU d' m))).length tk.length:=fun d'=>by rw[List.length_set];exact hob d'
 rw[List.length_set] at hbu
 simp only[List.set_set] at hend
 refine an.call (caps:=[]) (rs:=[]) Tryz.func252 rfl Tryz.ntmps252 rfl af rfl rfl ?_
 show aa E _ _ ⟨([St.ev _ x0,St.ev _ x1,St.ev _ x2,St.ev _ x3,St.ev _ x4]++[])++List.replicate (58-5) (.v undef),_,tk,gl,none,tmps++up⟩
 rw[hx0,hx1,hx2,hx3,hx4]
 have hBn:∀(tm:List AV) (d':Array Po),d'=Go.Stb.er mi (mi-lo) (hi-mi) d→bR E.P [] ⟨tmps,ow.set id (some (aU d m)),tk,gl,none,up⟩ (fun s z=>an E ops l0 Q (s.put dst z)) .normal ⟨tm,ow.set id (some (aU d' m)),tk,gl,none,tmps++up⟩:=fun tm d' e=>by subst e;exact⟨rfl,hend⟩
 have hBr:∀(tm:List AV) (d':Array Po),d'=Go.Stb.er mi (mi-lo) (hi-mi) d→bR E.P [] ⟨tmps,ow.set id (some (aU d m)),tk,gl,none,up⟩ (fun s z=>an E ops l0 Q (s.put dst z)) .ret ⟨tm,ow.set id (some (aU d' m)),tk,gl,none,tmps++up⟩:=fun tm d' e=>by subst e;exact⟨rfl,hend⟩
 generalize bR E.P [] ⟨tmps,ow.set id (some (aU d m)),tk,gl,none,up⟩ (fun s z=>an E ops l0 Q (s.put dst z))=Q1 at hBn hBr ⊢
 generalize tmps++up=up' at hbu hBn hBr ⊢
 clear hend ho hbo hx0 hx1 hx2 hx3 hx4
 have hset:∀x,(ow.set id x)[id]?=some x:=fun x=>List.getElem?_set_self hid
 repeat'(first
 |refine aa.aj fun K hK=>?_
 |(
  refine aa.here 0 12 4 rfl ?_
  have w0:IntKind.i64.wrap ((mi:Int)-lo)=((mi-lo:Nat):Int):=by rw[av ab ab];omega
  refine aa.region ?_;simp only[go_sem,hset,List.set_set,List.length_set,w0])
 |(
  refine aa.here 1 15 4 rfl ?_
  have w0:IntKind.i64.wrap ((hi:Int)-mi)=((hi-mi:Nat):Int):=by rw[av ab ab];omega
  refine aa.region ?_;simp only[go_sem,hset,List.set_set,List.length_set,w0])
 |(
  refine aa.here 5 32 4 rfl ?_
  have w0:IntKind.i64.wrap ((i:Int)-j)=((i-j:Nat):Int):=by rw[av ab ab];omega
  refine aa.region ?_;simp only[go_sem,hset,List.set_set,List.length_set,w0])
 |(
  refine aa.here 7 47 4 rfl ?_
  have w0:IntKind.i64.wrap ((j:Int)-i)=((j-i:Nat):Int):=by rw[av ab ab];omega
  refine aa.region ?_;simp only[go_sem,hset,List.set_set,List.length_set,w0])
 |(
  refine aa.here 4 24 8 rfl ?_
  have w0:IntKind.i64.wrap ((mi:Int)-i)=((mi-i:Nat):Int):=by rw[av ab ab];omega
  refine aa.bA ?_
  refine an.at 8 7 rfl ?_
  simp only[go_sem,hset,List.set_set,List.length_set,w0]
  refine tY (id:=id) (m:=m) (N:=N) (d:=e) (u:=mi-i) (v:=mi) (n:=j) bz bz bz bz bz (hset _) (by simp only[List.length_set,List.all_append,hbu,List.all_cons,List.all_nil,List.cons_append,List.nil_append,AV.bO,AV.eh,AV.de,decide_eq_true hid,Bool.and_true,Bool.true_and,List.all_replicate]) (hob2 _) hl (by(assumption)) ab ab ?_
  simp only[go_sem,hset,List.set_set,List.length_set,w0]
  refine an.of ?_
  (try simp only[go_sem,hset,List.set_set,List.length_set,w0]))
 |(
  refine aa.here 6 35 12 rfl ?_
  have w0:IntKind.i64.wrap ((mi:Int)-i)=((mi-i:Nat):Int):=by rw[av ab ab];omega
  have w1:IntKind.i64.wrap ((mi:Int)+j)=((mi+j:Nat):Int):=by rw[av ab ab];omega
  have w2:IntKind.i64.wrap (((mi+j:Nat):Int)-i)=((mi+j-i:Nat):Int):=by rw[av ab ab];omega
  refine aa.bA ?_
  refine an.at 12 11 rfl ?_
  simp only[go_sem,hset,List.set_set,List.length_set,w0,w1,w2]
  refine tY (id:=id) (m:=m) (N:=N) (d:=e) (u:=mi-i) (v:=mi+j-i) (n:=i) bz bz bz bz bz (hset _) (by simp only[List.length_set,List.all_append,hbu,List.all_cons,List.all_nil,List.cons_append,List.nil_append,AV.bO,AV.eh,AV.de,decide_eq_true hid,Bool.and_true,Bool.true_and,List.all_replicate]) (hob2 _) hl (by(assumption)) ab ab ?_
  simp only[go_sem,hset,List.set_set,List.length_set,w0,w1,w2]
  refine an.of ?_
  (try simp only[go_sem,hset,List.set_set,List.length_set,w0,w1,w2]))
 |(
  refine aa.here 8 50 8 rfl ?_
  have w0:IntKind.i64.wrap ((mi:Int)-i)=((mi-i:Nat):Int):=by rw[av ab ab];omega
  refine aa.bA ?_
  refine an.at 8 7 rfl ?_
  simp only[go_sem,hset,List.set_set,List.length_set,w0]
  refine tY (id:=id) (m:=m) (N:=N) (d:=e) (u:=mi-i) (v:=mi) (n:=i) bz bz bz bz bz (hset _) (by simp only[List.length_set,List.all_append,hbu,List.all_cons,List.all_nil,List.cons_append,List.nil_append,AV.bO,AV.eh,AV.de,decide_eq_true hid,Bool.and_true,Bool.true_and,List.all_replicate]) (hob2 _) hl (by(assumption)) ab ab ?_
  simp only[go_sem,hset,List.set_set,List.length_set,w0]
  refine an.of ?_
  (try simp only[go_sem,hset,List.set_set,List.length_set,w0]))
 |(refine aa.region ?_;simp only[go_sem,hset,List.set_set,List.length_set])
 |(refine hK _ ?_;clear hK K)
 |refine aa.block ?_
 |refine aa.cond rfl (fun c=>?_) (fun c=>?_)<;>(try simp only[dD] at c)
 |refine aa.skip ?_
 |(refine aa.exit ?_;simp only[go_sem,hset,List.set_set,List.length_set])
 |(
  refine aa.here 2 18 3 rfl ?_
  refine aa.ck (ι:=Nat×Nat×Array Po) [18,19,20,21,22,23,24,25,26,27,28,29,30,31,32,33,34,35,36,37,38,39,40,41,42,43,44,45,46,47,48,49] (fun⟨i,j,e⟩=>[(10,i64 i),(11,i64 j)]) (fun⟨i,j,e⟩=>ow.set id (some (aU e m))) (fun⟨i,j,e⟩=>tk) (fun⟨i,j,e⟩=>0<i∧0<j∧i≤mi∧mi+j≤N∧e.size=N∧Go.Stb.er mi i j e=Go.Stb.er mi (mi-lo) (hi-mi) d) (fun⟨i,j,e⟩=>i+j) ((mi-lo,hi-mi,d)) ?_ ?_ ?_
  ·(try simp only[go_sem]);(try simp only[List.set_set,List.length_set]);(repeat'(first|assumption|exact bu.wk (hob _)|exact dm|exact .inr (decide_eq_true hid)|refine And.intro ?_ ?_));done
  ·exact⟨by omega,by omega,by omega,by omega,hN,rfl⟩
  rintro⟨i,j,e⟩ ⟨g1,g2,g3,g4,g5,g6⟩
  simp only[go_sem,hset,List.set_set,List.length_set])
 |(
  refine⟨(i-j,j,Go.Stb.dV (mi-i) mi j 0 e),?_,?_,?_⟩
  ·(try simp only[go_sem]);(try rw[av ab ab]);(try simp only[List.set_set,List.length_set]);(repeat'(first|assumption|exact bu.wk (hob _)|exact dm|exact .inr (decide_eq_true hid)|refine And.intro ?_ ?_));done
  ·(try dsimp only);exact⟨by omega,by omega,by omega,by omega,by rw[Go.Stb.kD _ _ _ _ _ _ rfl];exact g5,by(exact(Mq ab ab).symm.trans g6)⟩
  ·(try simp only[]);omega)
 |(
  refine⟨(i,j-i,Go.Stb.dV (mi-i) (mi+j-i) i 0 e),?_,?_,?_⟩
  ·(try simp only[go_sem]);(try rw[av ab ab]);(try simp only[List.set_set,List.length_set]);(repeat'(first|assumption|exact bu.wk (hob _)|exact dm|exact .inr (decide_eq_true hid)|refine And.intro ?_ ?_));done
  ·(try dsimp only);exact⟨by omega,by omega,by omega,by omega,by rw[Go.Stb.kD _ _ _ _ _ _ rfl];exact g5,by(exact(Tx ab ab).symm.trans g6)⟩
  ·(try simp only[]);omega)
 |(exact hBn _ _ (by rw[←g6,PJ ab ab]))
 |refine aa.fin ae ?_)
set_option maxRecDepth 100000 in
theorem Cs{ops:Array Oper}{l0:List Oper}{Q:Exit→St→Prop}{tmps up:List AV}{gl:Nat→Option (List AV)}{own:List (Option (List AV))}{tk:List Nat}{dst:Option Tmp}{x0 x1 x2 x3:Operand}{tys:Array TypeId}{ty:TypeId}{pos:String}{after:Array Edge}{id m N:Nat}{d:Array Po}{lo hi:Nat}
 (hx0:St.ev ⟨tmps,own,tk,gl,none,up⟩ x0= .mu id 5 0 N (N+m))
 (hx1:St.ev ⟨tmps,own,tk,gl,none,up⟩ x1=i64 (lo:Int))
 (hx2:St.ev ⟨tmps,own,tk,gl,none,up⟩ x2=i64 (hi:Int))
 (hx3:St.ev ⟨tmps,own,tk,gl,none,up⟩ x3= .fn 104 [])
 (ho:own[id]?=some (some (aU d m)))
 (hbu:(tmps++up).all (AV.bO own.length tk.length)=true)
 (hbo:bu own own.length tk.length)
 (hl:N≤1000000)
 (hN:d.size=N)
 (h1:lo≤hi)
 (h2:hi≤N)
 (hend:an E ops l0 Q (St.put ⟨tmps,own.set id (some (aU (Go.Sort.insertionSort aP d lo hi) m)),tk,gl,none,up⟩ dst (.aC []))):an E ops (⟨dst,.call ⟨.value (.func 225),#[x0,x1,x2,x3],tys⟩,ty,pos,after,none⟩::l0) Q ⟨tmps,own,tk,gl,none,up⟩:=by
 have hid:=bN ho
 obtain⟨ow,how⟩:∃ow:List (Option (List AV)),own=ow.set id (some (aU d m)):=⟨own,(mZ ho).symm⟩
 subst how
 rw[List.length_set] at hid
 have hob:∀d':Array Po,bu (ow.set id (some (aU d' m))) ow.length tk.length:=fun d'=>by
  have:=hbo.set (id:=id) (mU d' m);rwa[List.set_set,List.length_set] at this
 have hob2:∀d':Array Po,bu (ow.set id (some (aU d' m))) (ow.set id (some (aU d' m))).length tk.length:=fun d'=>by rw[List.length_set];exact hob d'
 rw[List.length_set] at hbu
 simp only[List.set_set] at hend
 refine an.call (caps:=[]) (rs:=[]) Tryz.func225 rfl Tryz.ntmps225 rfl af rfl rfl ?_
 show aa E _ _ ⟨([St.ev _ x0,St.ev _ x1,St.ev _ x2,St.ev _ x3]++[])++List.replicate (53-4) (.v undef),_,tk,gl,none,tmps++up⟩
 rw[hx0,hx1,hx2,hx3]
 have hBn:∀(tm:List AV) (d':Array Po),d'=Go.Sort.insertionSort aP d lo hi→bR E.P [] ⟨tmps,ow.set id (some (aU d m)),tk,gl,none,up⟩ (fun s z=>an E ops l0 Q (s.put dst z)) .normal ⟨tm,ow.set id (some (aU d' m)),tk,gl,none,tmps++up⟩:=fun tm d' e=>by subst e;exact⟨rfl,hend⟩
 have hBr:∀(tm:List AV) (d':Array Po),d'=Go.Sort.insertionSort aP d lo hi→bR E.P [] ⟨tmps,ow.set id (some (aU d m)),tk,gl,none,up⟩ (fun s z=>an E ops l0 Q (s.put dst z)) .ret ⟨tm,ow.set id (some (aU d' m)),tk,gl,none,tmps++up⟩:=fun tm d' e=>by subst e;exact⟨rfl,hend⟩
 generalize bR E.P [] ⟨tmps,ow.set id (some (aU d m)),tk,gl,none,up⟩ (fun s z=>an E ops l0 Q (s.put dst z))=Q1 at hBn hBr ⊢
 generalize tmps++up=up' at hbu hBn hBr ⊢
 clear hend ho hbo hx0 hx1 hx2 hx3
 have hset:∀x,(ow.set id x)[id]?=some x:=fun x=>List.getElem?_set_self hid
 repeat'(first
 |refine aa.aj fun K hK=>?_
 |(
  refine aa.here 0 10 3 rfl ?_
  have w0:IntKind.i64.wrap ((lo:Int)+1)=((lo+1:Nat):Int):=by rw[av ab ab];omega
  refine aa.region ?_;simp only[go_sem,hset,List.set_set,List.length_set,w0])
 |(
  refine aa.here 6 37 18 rfl ?_
  have w0:IntKind.i64.wrap ((j:Int)-1)=((j-1:Nat):Int):=by rw[av ab ab];omega
  have g1:(aU e2 m)[j]?=some (bL e2[j]!):=fp ab
  have g2:(aU e2 m)[j-1]?=some (bL e2[j-1]!):=fp ab
  have g3:((aU e2 m).set (j) (bL e2[j-1]!))[j-1]?=some (bL (e2.setIfInBounds (j) e2[j-1]!)[j-1]!):=by rw[nZ ab];exact fp (by rw[Array.size_setIfInBounds];omega)
  have g4:((aU e2 m).set (j) (bL e2[j-1]!)).set (j-1) (bL e2[j]!)=aU (Go.Sort.swp e2 (j) (j-1)) m:=sw ab ab
  refine aa.bf [0,1,2,3,4,5,6,7,8,9,10,11,12,13,14,15,16,17] [] af af rfl ?_;simp only[go_sem,hset,List.set_set,List.length_set,w0,g1,g2,g3,g4,Int.toNat_natCast,hset,List.set_set])
 |(
  refine aa.here 5 35 3 rfl ?_
  have w0:IntKind.i64.wrap ((j:Int)-1)=((j-1:Nat):Int):=by rw[av ab ab];omega
  refine aa.region ?_;simp only[go_sem,hset,List.set_set,List.length_set,w0])
 |(
  refine aa.here 4 18 17 rfl ?_
  rcases Nat.lt_or_ge lo j with hlj|hlj
  rotate_left
  refine aa.bf [0,1,2,3,4,5,6,7,8,9,10,11,12,13,14,15,16] [] af af rfl ?_;simp only[go_sem,hset,List.set_set,List.length_set]
  rotate_left
  have w0:IntKind.i64.wrap ((j:Int)-1)=((j-1:Nat):Int):=by rw[av ab ab];omega
  have g1:(aU e2 m)[j]?=some (bL e2[j]!):=fp ab
  have g2:(aU e2 m)[(IntKind.i64.wrap ((j:Int)-1)).toNat]?=some (bL e2[j-1]!):=by rw[w0,Int.toNat_natCast];exact fp ab
  refine aa.bf [0,1,2,3,4,5,6,7,8,9,10,11,12,13,14,15,16] [] af af rfl ?_;simp only[go_sem,hset,List.set_set,List.length_set])
 |(refine aa.region ?_;simp only[go_sem,hset,List.set_set,List.length_set])
 |(refine hK _ ?_;clear hK K)
 |refine aa.block ?_
 |refine aa.cond rfl (fun c=>?_) (fun c=>?_)<;>first|exact Bool.noConfusion c|(try simp only[dD] at c)
 |refine aa.skip ?_
 |(refine aa.exit ?_;simp only[go_sem,hset,List.set_set,List.length_set])
 |(refine ah.one (ri _ _) af rfl ?_;simp only[go_sem,hset,List.set_set,List.length_set])
 |(refine aL.split (fun h=>?_) (fun h=>?_)<;>simp only[h,go_sem,hset,List.set_set,List.length_set]<;>(try simp only[dD] at h))
 |(refine aM.bG ae ?_;(try simp only[go_sem,hset,List.set_set,List.length_set]))
 |((first|refine aM.nth ?_ (fun b hb=>?_)|with_reducible refine And.intro ?_ ?_);(focus(omega));(try simp only[hb,go_sem,hset,List.set_set,List.length_set]))
 |(
  refine aa.here 1 12 3 rfl ?_
  refine aa.ck (ι:=Nat×Array Po) [9,12,13,14,15,16,17,18,19,20,21,22,23,24,25,26,27,28,29,30,31,32,33,34,35,36,37,38,39,40,41,42,43,44,45,46,47,48,49,50,51,52] (fun⟨i,e⟩=>[(8,i64 i)]) (fun⟨i,e⟩=>ow.set id (some (aU e m))) (fun⟨i,e⟩=>tk) (fun⟨i,e⟩=>lo+1≤i∧i≤hi+1∧e.size=N∧Go.Sort.insOuter aP lo hi i e=Go.Sort.insertionSort aP d lo hi) (fun⟨i,e⟩=>hi-i) ((lo+1,d)) ?_ ?_ ?_
  ·(try simp only[go_sem]);(try simp only[List.set_set,List.length_set]);(repeat'(first|assumption|exact bu.wk (hob _)|exact dm|exact .inr (decide_eq_true hid)|refine And.intro ?_ ?_));done
  ·exact⟨by omega,by omega,hN,rfl⟩
  rintro⟨i,e⟩ ⟨g1,g2,g3,g4⟩
  simp only[go_sem,hset,List.set_set,List.length_set])
 |(
  refine aa.here 4 18 17 rfl ?_
  refine aa.ck (ι:=Nat×Array Po) [18,19,20,21,22,23,24,25,26,27,28,29,30,31,32,33,34,35,36,37,38,39,40,41,42,43,44,45,46,47,48,49,50,51,52] (fun⟨j,e2⟩=>[(9,i64 j)]) (fun⟨j,e2⟩=>ow.set id (some (aU e2 m))) (fun⟨j,e2⟩=>tk) (fun⟨j,e2⟩=>lo≤j∧j≤i∧e2.size=N∧Go.Sort.insInner aP lo j e2=Go.Sort.insInner aP lo i e) (fun⟨j,e2⟩=>j) ((i,e)) ?_ ?_ ?_
  ·(try simp only[go_sem]);(try simp only[List.set_set,List.length_set]);(repeat'(first|assumption|exact bu.wk (hob _)|exact dm|exact .inr (decide_eq_true hid)|refine And.intro ?_ ?_));done
  ·exact⟨by omega,by omega,g3,rfl⟩
  rintro⟨j,e2⟩ ⟨k1,k2,k3,k4⟩
  simp only[go_sem,hset,List.set_set,List.length_set])
 |(
  refine⟨(i+1,e2),?_,?_,?_⟩
  ·(try simp only[go_sem]);(try rw[av ab ab]);(try simp only[List.set_set,List.length_set]);(repeat'(first|assumption|exact bu.wk (hob _)|exact dm|exact .inr (decide_eq_true hid)|refine And.intro ?_ ?_|exact .inr rfl));done
  ·(try dsimp only);exact⟨by omega,by omega,k3,by rw[Ie ab,←k4] at g4;first|(rw[Hi ab] at g4;exact g4)|(rw[ET ae] at g4;exact g4)⟩
  ·(try simp only[]);omega)
 |(
  refine⟨(j-1,Go.Sort.swp e2 j (j-1)),?_,?_,?_⟩
  ·(try simp only[go_sem]);(try rw[av ab ab]);(try simp only[List.set_set,List.length_set]);(repeat'(first|assumption|exact bu.wk (hob _)|exact dm|exact .inr (decide_eq_true hid)|refine And.intro ?_ ?_));done
  ·(try dsimp only);exact⟨by omega,by omega,by rw[Go.Sort.swp_size];exact k3,(Sk ab ae).symm.trans k4⟩
  ·(try simp only[]);omega)
 |(exact hBn _ _ (by rw[←g4,Dq ab]))
 |(exfalso;omega)
 |refine aa.fin ae ?_)
theorem xF{d:Array Po}{i j:Nat}(h:eA (aN d[i]!) (aN d[j]!)<0):aP d[i]! d[j]! =true:=qT.2 h
theorem zE{d:Array Po}{i j:Nat}(h:¬eA (aN d[i]!) (aN d[j]!)<0):aP d[i]! d[j]! =false:=by
 cases e:aP d[i]! d[j]! with
 |false=>rfl
 |true=>exact absurd (qT.1 e) h
theorem Ck{d:Array Po}{i j:Nat}(h:¬eA (aN d[i]!) (aN d[j]!)<0):(!aP d[i]! d[j]!)=true:=by rw[zE h];rfl
theorem A9{d:Array Po}{i j:Nat}(h:eA (aN d[i]!) (aN d[j]!)<0):(!aP d[i]! d[j]!)=false:=by rw[xF h];rfl
theorem tq{q:Nat→Bool}{i j:Nat}(h:i<j)(hq:q ((i+j)/2)=true):Go.Stb.dh q i j=Go.Stb.dh q ((i+j)/2+1) j:=by
 rw[Go.Stb.dh,if_pos h,if_pos hq]
theorem uw{q:Nat→Bool}{i j:Nat}(h:i<j)(hq:q ((i+j)/2)=false):Go.Stb.dh q i j=Go.Stb.dh q i ((i+j)/2):=by
 rw[Go.Stb.dh,if_pos h,if_neg (by rw[hq];simp)]
theorem sY{q:Nat→Bool}{i j:Nat}(h:¬i<j):Go.Stb.dh q i j=i:=by
 rw[Go.Stb.dh,if_neg h]
section
variable{i k s x lo hi mi N:Nat}{d e1 e2:Array Po}
theorem Au(h:k+1<i):Go.Stb.gf k i d=Go.Stb.gf (k+1) i (Go.Sort.swp d k (k+1)):=by rw[Go.Stb.gf,if_pos h]
theorem wm(h:¬k+1<i):Go.Stb.gf k i d=d:=by rw[Go.Stb.gf,if_neg h]
theorem wY(h:i<k):Go.Stb.fx i k d=Go.Stb.fx i (k-1) (Go.Sort.swp d k (k-1)):=by
 cases k with
 |zero=>omega
 |succ k=>rw[Go.Stb.fx,if_pos h];rfl
theorem zp(h:¬i<k):Go.Stb.fx i k d=d:=by
 cases k with
 |zero=>rfl
 |succ k=>rw[Go.Stb.fx,if_neg h]
theorem yL:∀(r k:Nat) (d:Array Po),i-k≤r→(Go.Stb.gf k i d).size=d.size
 |0,k,d,h=>by rw[wm ab]
 |r+1,k,d,h=>by
  rcases Nat.lt_or_ge (k+1) i with h2|h2
  ·rw[Au h2,yL r (k+1) _ ab,Go.Sort.swp_size]
  ·rw[wm ab]
theorem BA:∀(k:Nat) (d:Array Po),(Go.Stb.fx i k d).size=d.size
 |0,d=>rfl
 |k+1,d=>by
  rcases Nat.lt_or_ge i (k+1) with h2|h2
  ·rw[wY h2];show(Go.Stb.fx i k _).size=_;rw[BA k,Go.Sort.swp_size]
  ·rw[zp ab]
theorem wB:∀(r i j:Nat) (d:Array Po),i+j≤r→(Go.Stb.er mi i j d).size=d.size
 |r,i,j,d,h=>by
  rw[Go.Stb.er]
  split
  ·rfl
  ·split
   ·exact Go.Stb.kD _ _ _ _ _ _ rfl
   ·split
    ·cases r with
     |zero=>omega
     |succ r=>rw[wB r _ _ _ ab,Go.Stb.kD _ _ _ _ _ _ rfl]
    ·cases r with
     |zero=>omega
     |succ r=>rw[wB r _ _ _ ab,Go.Stb.kD _ _ _ _ _ _ rfl]
theorem px:(Go.Stb.fB aP lo mi hi d).size=d.size:=by
 unfold Go.Stb.fB;split
 ·exact wB _ _ _ _ (Nat.le_refl _)
 ·rfl
theorem rK:∀(r lo mi hi:Nat) (d:Array Po),hi-lo≤r→(Go.Stb.cQ aP lo mi hi d).size=d.size
 |r,lo,mi,hi,d,hr=>by
  rw[Go.Stb.cQ]
  split
  ·exact yL _ _ _ (Nat.le_refl _)
  ·split
   ·exact BA _ _
   ·split
    ·rename_i h2
     cases r with
     |zero=>omega
     |succ r=>
      rw[rK r _ _ _ _ ab]
      split
      ·rw[rK r _ _ _ _ ab];exact px
      ·exact px
    ·split
     ·cases r with
      |zero=>omega
      |succ r=>rw[rK r _ _ _ _ ab];exact px
     ·exact px
theorem wq:(Go.Stb.cQ aP lo mi hi d).size=d.size:=rK _ _ _ _ _ (Nat.le_refl _)
theorem Sg(hs:Go.Stb.dC aP lo mi hi d=s)(h1:s<mi)(h2:mi<(lo+hi)/2+mi-s):Go.Stb.fB aP lo mi hi d=Go.Stb.er mi (mi-s) ((lo+hi)/2+mi-s-mi) d:=by
 unfold Go.Stb.fB;rw[hs,if_pos ⟨h1,h2⟩]
theorem Wi(hs:Go.Stb.dC aP lo mi hi d=s)(h:¬(s<mi∧mi<(lo+hi)/2+mi-s)):Go.Stb.fB aP lo mi hi d=d:=by
 unfold Go.Stb.fB;rw[hs,if_neg h]
theorem Ic(h:mi-lo=1):Go.Stb.cQ aP lo mi hi d=Go.Stb.gf lo (Go.Stb.dh (fun x=>aP d[x]! d[lo]!) mi hi) d:=by
 rw[Go.Stb.cQ,if_pos h]
theorem Wu(h:¬mi-lo=1)(h2:hi-mi=1):Go.Stb.cQ aP lo mi hi d=Go.Stb.fx (Go.Stb.dh (fun x=>!aP d[mi]! d[x]!) lo mi) mi d:=by
 rw[Go.Stb.cQ,if_neg h,if_pos h2]
theorem yb(h:¬mi-lo=1)(h2:¬hi-mi=1)(hs:Go.Stb.dC aP lo mi hi d=s)(he1:Go.Stb.fB aP lo mi hi d=e1)(he2:(if lo<s∧s<(lo+hi)/2 then Go.Stb.cQ aP lo s ((lo+hi)/2) e1 else e1)=e2):
 Go.Stb.cQ aP lo mi hi d=if(lo+hi)/2<(lo+hi)/2+mi-s∧(lo+hi)/2+mi-s<hi then Go.Stb.cQ aP ((lo+hi)/2) ((lo+hi)/2+mi-s) hi e2 else e2:=by
 rw[Go.Stb.cQ,if_neg h,if_neg h2,hs,he1]
 simp only[dite_eq_ite]
 rw[he2]
theorem zg(h1:lo≤hi)(h2:hi≤d.size):(Go.Sort.insertionSort aP d lo hi).size=d.size:=(Go.Sort.insertionSort_holds vm d lo hi h1 h2).1.1
theorem YM(h:x+20≤N):Go.Stb.gd aP N x (x+20) d=Go.Stb.gd aP N (x+20) (x+20+20) (Go.Sort.insertionSort aP d x (x+20)):=by rw[Go.Stb.gd,if_pos h]
theorem Bi(h:¬x+20≤N):Go.Stb.gd aP N x (x+20) d=Go.Sort.insertionSort aP d x N:=by rw[Go.Stb.gd,if_neg h]
theorem Ey(h0:0<s)(h:x+2*s≤N):Go.Stb.eS aP N s x (x+2*s) d=Go.Stb.eS aP N s (x+2*s) (x+2*s+2*s) (Go.Stb.cQ aP x (x+s) (x+2*s) d):=by rw[Go.Stb.eS,if_neg ab,if_pos h]
theorem wH(h0:0<s)(h:¬x+2*s≤N)(h2:x+s<N):Go.Stb.eS aP N s x (x+2*s) d=Go.Stb.cQ aP x (x+s) N d:=by rw[Go.Stb.eS,if_neg ab,if_neg h,if_pos h2]
theorem AK(h0:0<s)(h:¬x+2*s≤N)(h2:¬x+s<N):Go.Stb.eS aP N s x (x+2*s) d=d:=by rw[Go.Stb.eS,if_neg ab,if_neg h,if_neg h2]
theorem D1(h0:0<s)(h:s<N):Go.Stb.jb aP N s d=Go.Stb.jb aP N (s*2) (Go.Stb.eS aP N s 0 (2*s) d):=by rw[Go.Stb.jb,dif_pos ⟨h0,h⟩]
theorem Rk(h:¬s<N):Go.Stb.jb aP N s d=d:=by rw[Go.Stb.jb,dif_neg ab]
end
set_option maxRecDepth 100000 in
theorem Ar(rr:Nat):∀{ops:Array Oper} {l0:List Oper} {Q:Exit→St→Prop} {tmps up:List AV} {gl:Nat→Option (List AV)} {own:List (Option (List AV))} {tk:List Nat} {dst:Option Tmp} {x0 x1 x2 x3 x4:Operand} {tys:Array TypeId} {ty:TypeId} {pos:String} {after:Array Edge} {id m N:Nat} {d:Array Po} {lo mi hi:Nat}
 (hx0:St.ev ⟨tmps,own,tk,gl,none,up⟩ x0= .mu id 5 0 N (N+m))
 (hx1:St.ev ⟨tmps,own,tk,gl,none,up⟩ x1=i64 (lo:Int))
 (hx2:St.ev ⟨tmps,own,tk,gl,none,up⟩ x2=i64 (mi:Int))
 (hx3:St.ev ⟨tmps,own,tk,gl,none,up⟩ x3=i64 (hi:Int))
 (hx4:St.ev ⟨tmps,own,tk,gl,none,up⟩ x4= .fn 104 [])
 (ho:own[id]?=some (some (aU d m)))
 (hbu:(tmps++up).all (AV.bO own.length tk.length)=true)
 (hbo:bu own own.length tk.length)
 (hl:N≤1000000)
 (hN:d.size=N)
 (h1:lo<mi)
 (h2:mi<hi)
 (h3:hi≤N)
 (hend:an E ops l0 Q (St.put ⟨tmps,own.set id (some (aU (Go.Stb.cQ aP lo mi hi d) m)),tk,gl,none,up⟩ dst (.aC []))) (hr:hi-lo≤rr),an E ops (⟨dst,.call ⟨.value (.func 226),#[x0,x1,x2,x3,x4],tys⟩,ty,pos,after,none⟩::l0) Q ⟨tmps,own,tk,gl,none,up⟩:=by
 induction rr with
 |zero=>intros;exfalso;omega
 |succ rr ih=>
 intro ops l0 Q tmps up gl own tk dst x0 x1 x2 x3 x4 tys ty pos after id m N d lo mi hi hx0 hx1 hx2 hx3 hx4 ho hbu hbo hl hN h1 h2 h3 hend hr
 have hid:=bN ho
 obtain⟨ow,how⟩:∃ow:List (Option (List AV)),own=ow.set id (some (aU d m)):=⟨own,(mZ ho).symm⟩
 subst how
 rw[List.length_set] at hid
 have hob:∀d':Array Po,bu (ow.set id (some (aU d' m))) ow.length tk.length:=fun d'=>by
  have:=hbo.set (id:=id) (mU d' m);rwa[List.set_set,List.length_set] at this
 have hob2:∀d':Array Po,bu (ow.set id (some (aU d' m))) (ow.set id (some (aU d' m))).length tk.length:=fun d'=>by rw[List.length_set];exact hob d'
 rw[List.length_set] at hbu
 simp only[List.set_set] at hend
 refine an.call (caps:=[]) (rs:=[]) Tryz.func226 rfl Tryz.ntmps226 rfl af rfl rfl ?_
 show aa E _ _ ⟨([St.ev _ x0,St.ev _ x1,St.ev _ x2,St.ev _ x3,St.ev _ x4]++[])++List.replicate (220-5) (.v undef),_,tk,gl,none,tmps++up⟩
 rw[hx0,hx1,hx2,hx3,hx4]
 have hBn:∀(tm:List AV) (d':Array Po),d'=Go.Stb.cQ aP lo mi hi d→bR E.P [] ⟨tmps,ow.set id (some (aU d m)),tk,gl,none,up⟩ (fun s z=>an E ops l0 Q (s.put dst z)) .normal ⟨tm,ow.set id (some (aU d' m)),tk,gl,none,tmps++up⟩:=fun tm d' e=>by subst e;exact⟨rfl,hend⟩
 have hBr:∀(tm:List AV) (d':Array Po),d'=Go.Stb.cQ aP lo mi hi d→bR E.P [] ⟨tmps,ow.set id (some (aU d m)),tk,gl,none,up⟩ (fun s z=>an E ops l0 Q (s.put dst z)) .ret ⟨tm,ow.set id (some (aU d' m)),tk,gl,none,tmps++up⟩:=fun tm d' e=>by subst e;exact⟨rfl,hend⟩
 generalize bR E.P [] ⟨tmps,ow.set id (some (aU d m)),tk,gl,none,up⟩ (fun s z=>an E ops l0 Q (s.put dst z))=Q1 at hBn hBr ⊢
 generalize tmps++up=up' at hbu hBn hBr ⊢
 clear hend ho hbo hx0 hx1 hx2 hx3 hx4
 have hset:∀x,(ow.set id x)[id]?=some x:=fun x=>List.getElem?_set_self hid
 repeat'(first
 |refine aa.aj fun K hK=>?_
 |(
  refine aa.here 0 25 4 rfl ?_
  have w0:IntKind.i64.wrap ((mi:Int)-lo)=((mi-lo:Nat):Int):=by rw[av ab ab];omega
  refine aa.region ?_;simp only[go_sem,hset,List.set_set,List.length_set,w0])
 |(
  refine aa.here 4 34 7 rfl ?_
  have hh:=oY (i:=i) (j:=j) ab ab
  refine aa.region ?_;simp only[go_sem,hset,List.set_set,List.length_set,hh])
 |(
  refine aa.here 5 40 11 rfl ?_
  have f1:(aU d m)[(i+j)/2]?=some (bL d[(i+j)/2]!):=fp ab
  have f2:(aU d m)[lo]?=some (bL d[lo]!):=fp ab
  refine aa.bf [0,1,2,3,4,5,6,7,8,9,10] [] af af rfl ?_;simp only[go_sem,hset,List.set_set,List.length_set,f1,f2,Int.toNat_natCast])
 |(
  refine aa.here 8 54 2 rfl ?_
  obtain rfl:i=j:=by omega
  have gi:Go.Stb.dh (fun x=>aP d[x]! d[lo]!) mi hi=i:=by rw[←g4,sY ab]
  refine aa.region ?_;simp only[go_sem,hset,List.set_set,List.length_set])
 |(
  refine aa.here 9 55 4 rfl ?_
  have w0:IntKind.i64.wrap ((i:Int)-1)=((i-1:Nat):Int):=by rw[av ab ab];omega
  refine aa.region ?_;simp only[go_sem,hset,List.set_set,List.length_set,w0])
 |(
  refine aa.here 11 61 18 rfl ?_
  have w0:IntKind.i64.wrap ((k:Int)+1)=((k+1:Nat):Int):=by rw[av ab ab];omega
  have g1:(aU e m)[k]?=some (bL e[k]!):=fp ab
  have g2:(aU e m)[k+1]?=some (bL e[k+1]!):=fp ab
  have g3:((aU e m).set (k) (bL e[k+1]!))[k+1]?=some (bL (e.setIfInBounds (k) e[k+1]!)[k+1]!):=by rw[nZ ab];exact fp (by rw[Array.size_setIfInBounds];omega)
  have g4:((aU e m).set (k) (bL e[k+1]!)).set (k+1) (bL e[k]!)=aU (Go.Sort.swp e (k) (k+1)) m:=sw ab ab
  refine aa.bf [0,1,2,3,4,5,6,7,8,9,10,11,12,13,14,15,16,17] [] af af rfl ?_;simp only[go_sem,hset,List.set_set,List.length_set,w0,g1,g2,g3,g4,Int.toNat_natCast,hset,List.set_set])
 |(
  refine aa.here 10 59 3 rfl ?_
  have w0:IntKind.i64.wrap ((k:Int)+1)=((k+1:Nat):Int):=by rw[av ab ab];omega
  refine aa.region ?_;simp only[go_sem,hset,List.set_set,List.length_set,w0])
 |(
  refine aa.here 12 77 4 rfl ?_
  have w0:IntKind.i64.wrap ((hi:Int)-mi)=((hi-mi:Nat):Int):=by rw[av ab ab];omega
  refine aa.region ?_;simp only[go_sem,hset,List.set_set,List.length_set,w0])
 |(
  refine aa.here 16 86 7 rfl ?_
  have hh:=oY (i:=i) (j:=j) ab ab
  refine aa.region ?_;simp only[go_sem,hset,List.set_set,List.length_set,hh])
 |(
  refine aa.here 17 92 12 rfl ?_
  have f1:(aU d m)[(i+j)/2]?=some (bL d[(i+j)/2]!):=fp ab
  have f2:(aU d m)[mi]?=some (bL d[mi]!):=fp ab
  refine aa.bf [0,1,2,3,4,5,6,7,8,9,10,11] [] af af rfl ?_;simp only[go_sem,hset,List.set_set,List.length_set,f1,f2,Int.toNat_natCast])
 |(
  refine aa.here 20 107 2 rfl ?_
  obtain rfl:i=j:=by omega
  have gi:Go.Stb.dh (fun x=>!aP d[mi]! d[x]!) lo mi=i:=by rw[←g4,sY ab]
  refine aa.region ?_;simp only[go_sem,hset,List.set_set,List.length_set])
 |(
  refine aa.here 23 113 18 rfl ?_
  have w0:IntKind.i64.wrap ((k:Int)-1)=((k-1:Nat):Int):=by rw[av ab ab];omega
  have g1:(aU e m)[k]?=some (bL e[k]!):=fp ab
  have g2:(aU e m)[k-1]?=some (bL e[k-1]!):=fp ab
  have g3:((aU e m).set (k) (bL e[k-1]!))[k-1]?=some (bL (e.setIfInBounds (k) e[k-1]!)[k-1]!):=by rw[nZ ab];exact fp (by rw[Array.size_setIfInBounds];omega)
  have g4:((aU e m).set (k) (bL e[k-1]!)).set (k-1) (bL e[k]!)=aU (Go.Sort.swp e (k) (k-1)) m:=sw ab ab
  refine aa.bf [0,1,2,3,4,5,6,7,8,9,10,11,12,13,14,15,16,17] [] af af rfl ?_;simp only[go_sem,hset,List.set_set,List.length_set,w0,g1,g2,g3,g4,Int.toNat_natCast,hset,List.set_set])
 |(
  refine aa.here 22 111 3 rfl ?_
  have w0:IntKind.i64.wrap ((k:Int)-1)=((k-1:Nat):Int):=by rw[av ab ab];omega
  refine aa.region ?_;simp only[go_sem,hset,List.set_set,List.length_set,w0])
 |(
  refine aa.here 24 129 7 rfl ?_
  have hh:=oY (i:=lo) (j:=hi) ab ab
  refine aa.region ?_;simp only[go_sem,hset,List.set_set,List.length_set,hh])
 |(
  refine aa.here 25 135 4 rfl ?_
  have w0:IntKind.i64.wrap ((((lo+hi)/2:Nat):Int)+mi)=(((lo+hi)/2+mi:Nat):Int):=by rw[av ab ab];omega
  refine aa.region ?_;simp only[go_sem,hset,List.set_set,List.length_set,w0])
 |(
  refine aa.here 28 141 4 rfl ?_
  have w0:IntKind.i64.wrap ((((lo+hi)/2+mi:Nat):Int)-hi)=(((lo+hi)/2+mi-hi:Nat):Int):=by rw[av ab ab];omega
  refine aa.region ?_;simp only[go_sem,hset,List.set_set,List.length_set,w0])
 |(
  refine aa.here 32 147 3 rfl ?_
  have w0:IntKind.i64.wrap ((((lo+hi)/2+mi:Nat):Int)-1)=(((lo+hi)/2+mi-1:Nat):Int):=by rw[av ab ab];omega
  refine aa.region ?_;simp only[go_sem,hset,List.set_set,List.length_set,w0])
 |(
  refine aa.here 34 152 7 rfl ?_
  have hh:=oY (i:=s) (j:=r) ab ab
  refine aa.region ?_;simp only[go_sem,hset,List.set_set,List.length_set,hh])
 |(
  refine aa.here 35 158 14 rfl ?_
  have w0:IntKind.i64.wrap ((((lo+hi)/2+mi-1:Nat):Int)-(((s+r)/2:Nat):Int))=(((lo+hi)/2+mi-1-(s+r)/2:Nat):Int):=by rw[av ab ab];omega
  have f1:(aU d m)[(lo+hi)/2+mi-1-(s+r)/2]?=some (bL d[(lo+hi)/2+mi-1-(s+r)/2]!):=fp ab
  have f2:(aU d m)[(s+r)/2]?=some (bL d[(s+r)/2]!):=fp ab
  refine aa.bf [0,1,2,3,4,5,6,7,8,9,10,11,12,13] [] af af rfl ?_;simp only[go_sem,hset,List.set_set,List.length_set,w0,f1,f2,Int.toNat_natCast])
 |(
  refine aa.here 38 175 4 rfl ?_
  obtain rfl:s=r:=by omega
  have gs:Go.Stb.dC aP lo mi hi d=s:=by rw[←g6,sY ab]
  have w0:IntKind.i64.wrap ((((lo+hi)/2+mi:Nat):Int)-s)=(((lo+hi)/2+mi-s:Nat):Int):=by rw[av ab ab];omega
  refine aa.region ?_;simp only[go_sem,hset,List.set_set,List.length_set,w0])
 |(
  refine aa.here 41 192 8 rfl ?_
  first
  |rw[show aU (Go.Stb.er mi (mi-s) ((lo+hi)/2+mi-s-mi) d) m=aU (Go.Stb.fB aP lo mi hi d) m by rw[Sg gs ab ab]]
  |rw[show aU d m=aU (Go.Stb.fB aP lo mi hi d) m by rw[Wi gs ab]]
  have z1:(Go.Stb.fB aP lo mi hi d).size=N:=by rw[px];exact hN
  generalize he1:Go.Stb.fB aP lo mi hi d=e1 at z1 ⊢
  refine aa.region ?_;simp only[go_sem,hset,List.set_set,List.length_set])
 |(
  refine aa.here 43 206 8 rfl ?_
  first
  |rw[show aU (Go.Stb.cQ aP lo s ((lo+hi)/2) e1) m=aU (if lo<s∧s<(lo+hi)/2 then Go.Stb.cQ aP lo s ((lo+hi)/2) e1 else e1) m by rw[if_pos ab]]
  |rw[show aU e1 m=aU (if lo<s∧s<(lo+hi)/2 then Go.Stb.cQ aP lo s ((lo+hi)/2) e1 else e1) m by rw[if_neg ab]]
  have z2:(if lo<s∧s<(lo+hi)/2 then Go.Stb.cQ aP lo s ((lo+hi)/2) e1 else e1).size=N:=by split<;>first|(rw[wq];exact z1)|exact z1
  generalize he2:(if lo<s∧s<(lo+hi)/2 then Go.Stb.cQ aP lo s ((lo+hi)/2) e1 else e1)=e2 at z2 ⊢
  refine aa.region ?_;simp only[go_sem,hset,List.set_set,List.length_set])
 |(
  refine aa.here 40 186 6 rfl ?_
  refine aa.bA ?_
  refine an.at 6 5 rfl ?_
  simp only[go_sem,hset,List.set_set,List.length_set]
  refine VF (id:=id) (m:=m) (N:=N) (d:=d) (lo:=s) (mi:=mi) (hi:=(lo+hi)/2+mi-s) bz bz bz bz bz (hset _) (by simp only[List.length_set,List.all_append,hbu,List.all_cons,List.all_nil,List.cons_append,List.nil_append,AV.bO,AV.eh,AV.de,decide_eq_true hid,Bool.and_true,Bool.true_and,List.all_replicate]) (hob2 _) hl (by(assumption)) ab ab ab ?_
  simp only[go_sem,hset,List.set_set,List.length_set]
  refine an.of ?_
  (try simp only[go_sem,hset,List.set_set,List.length_set]))
 |(
  refine aa.here 42 200 6 rfl ?_
  refine aa.bA ?_
  refine an.at 6 5 rfl ?_
  simp only[go_sem,hset,List.set_set,List.length_set]
  refine ih (id:=id) (m:=m) (N:=N) (d:=e1) (lo:=lo) (mi:=s) (hi:=(lo+hi)/2) bz bz bz bz bz (hset _) (by simp only[List.length_set,List.all_append,hbu,List.all_cons,List.all_nil,List.cons_append,List.nil_append,AV.bO,AV.eh,AV.de,decide_eq_true hid,Bool.and_true,Bool.true_and,List.all_replicate]) (hob2 _) hl (by(assumption)) ab ab ab ?_ ab
  simp only[go_sem,hset,List.set_set,List.length_set]
  refine an.of ?_
  (try simp only[go_sem,hset,List.set_set,List.length_set]))
 |(
  refine aa.here 44 214 6 rfl ?_
  refine aa.bA ?_
  refine an.at 6 5 rfl ?_
  simp only[go_sem,hset,List.set_set,List.length_set]
  refine ih (id:=id) (m:=m) (N:=N) (d:=e2) (lo:=(lo+hi)/2) (mi:=(lo+hi)/2+mi-s) (hi:=hi) bz bz bz bz bz (hset _) (by simp only[List.length_set,List.all_append,hbu,List.all_cons,List.all_nil,List.cons_append,List.nil_append,AV.bO,AV.eh,AV.de,decide_eq_true hid,Bool.and_true,Bool.true_and,List.all_replicate]) (hob2 _) hl (by(assumption)) ab ab ab ?_ ab
  simp only[go_sem,hset,List.set_set,List.length_set]
  refine an.of ?_
  (try simp only[go_sem,hset,List.set_set,List.length_set]))
 |(refine aa.region ?_;simp only[go_sem,hset,List.set_set,List.length_set])
 |(refine hK _ ?_;clear hK K)
 |refine aa.block ?_
 |refine aa.cond rfl (fun c=>?_) (fun c=>?_)<;>first|exact Bool.noConfusion c|(try simp only[dD] at c)
 |refine aa.skip ?_
 |(refine aa.exit ?_;simp only[go_sem,hset,List.set_set,List.length_set])
 |(refine ah.one (ri _ _) af rfl ?_;simp only[go_sem,hset,List.set_set,List.length_set])
 |(refine aL.split (fun h=>?_) (fun h=>?_)<;>simp only[h,go_sem,hset,List.set_set,List.length_set]<;>(try simp only[dD] at h))
 |((with_reducible refine And.intro ?_ ?_);(focus(omega));(try simp only[hb,go_sem,hset,List.set_set,List.length_set]))
 |(
  refine aa.here 3 31 3 rfl ?_
  refine aa.cC (ι:=Nat×Nat) [12,31,32,33,34,35,36,37,38,39,40,41,42,43,44,45,46,47,48,49,50,51,52,53] (fun⟨i,j⟩=>[(10,i64 i),(11,i64 j)]) (fun⟨i,j⟩=>mi≤i∧i≤j∧j≤hi∧Go.Stb.dh (fun x=>aP d[x]! d[lo]!) i j=Go.Stb.dh (fun x=>aP d[x]! d[lo]!) mi hi) (fun⟨i,j⟩=>j-i) ((mi,hi)) ?_ ?_ ?_
  ·(try simp only[go_sem]);(try simp only[List.set_set,List.length_set]);(repeat'(first|assumption|exact bu.wk (hob _)|exact dm|exact .inr (decide_eq_true hid)|refine And.intro ?_ ?_));done
  ·exact⟨by omega,by omega,by omega,rfl⟩
  rintro⟨i,j⟩ ⟨g1,g2,g3,g4⟩
  simp only[go_sem,hset,List.set_set,List.length_set])
 |(
  refine aa.here 9 55 4 rfl ?_
  refine aa.ck (ι:=Nat×Array Po) [55,56,57,58,59,60,61,62,63,64,65,66,67,68,69,70,71,72,73,74,75,76] (fun⟨k,e⟩=>[(13,i64 k)]) (fun⟨k,e⟩=>ow.set id (some (aU e m))) (fun⟨k,e⟩=>tk) (fun⟨k,e⟩=>lo≤k∧e.size=N∧Go.Stb.gf k i e=Go.Stb.gf lo i d) (fun⟨k,e⟩=>i-k) ((lo,d)) ?_ ?_ ?_
  ·(try simp only[go_sem]);(try simp only[List.set_set,List.length_set]);(repeat'(first|assumption|exact bu.wk (hob _)|exact dm|exact .inr (decide_eq_true hid)|refine And.intro ?_ ?_));done
  ·exact⟨by omega,hN,rfl⟩
  rintro⟨k,e⟩ ⟨k1,k2,k3⟩
  simp only[go_sem,hset,List.set_set,List.length_set])
 |(
  refine aa.here 15 83 3 rfl ?_
  refine aa.cC (ι:=Nat×Nat) [16,83,84,85,86,87,88,89,90,91,92,93,94,95,96,97,98,99,100,101,102,103,104,105,106] (fun⟨i,j⟩=>[(14,i64 i),(15,i64 j)]) (fun⟨i,j⟩=>lo≤i∧i≤j∧j≤mi∧Go.Stb.dh (fun x=>!aP d[mi]! d[x]!) i j=Go.Stb.dh (fun x=>!aP d[mi]! d[x]!) lo mi) (fun⟨i,j⟩=>j-i) ((lo,mi)) ?_ ?_ ?_
  ·(try simp only[go_sem]);(try simp only[List.set_set,List.length_set]);(repeat'(first|assumption|exact bu.wk (hob _)|exact dm|exact .inr (decide_eq_true hid)|refine And.intro ?_ ?_));done
  ·exact⟨by omega,by omega,by omega,rfl⟩
  rintro⟨i,j⟩ ⟨g1,g2,g3,g4⟩
  simp only[go_sem,hset,List.set_set,List.length_set])
 |(
  refine aa.here 21 108 3 rfl ?_
  refine aa.ck (ι:=Nat×Array Po) [108,109,110,111,112,113,114,115,116,117,118,119,120,121,122,123,124,125,126,127,128] (fun⟨k,e⟩=>[(17,i64 k)]) (fun⟨k,e⟩=>ow.set id (some (aU e m))) (fun⟨k,e⟩=>tk) (fun⟨k,e⟩=>k≤mi∧e.size=N∧Go.Stb.fx i k e=Go.Stb.fx i mi d) (fun⟨k,e⟩=>k) ((mi,d)) ?_ ?_ ?_
  ·(try simp only[go_sem]);(try simp only[List.set_set,List.length_set]);(repeat'(first|assumption|exact bu.wk (hob _)|exact dm|exact .inr (decide_eq_true hid)|refine And.intro ?_ ?_));done
  ·exact⟨by omega,hN,rfl⟩
  rintro⟨k,e⟩ ⟨k1,k2,k3⟩
  simp only[go_sem,hset,List.set_set,List.length_set])
 |(
  refine aa.here 33 149 3 rfl ?_
  refine aa.cC (ι:=Nat×Nat) [23,149,150,151,152,153,154,155,156,157,158,159,160,161,162,163,164,165,166,167,168,169,170,171,172,173,174] (fun⟨s,r⟩=>[(20,i64 s),(21,i64 r)]) (fun⟨s,r⟩=>lo≤s∧(lo+hi)/2+mi≤hi+s∧s≤r∧r≤(lo+hi)/2∧r≤mi∧Go.Stb.dh (fun x=>!aP d[(lo+hi)/2+mi-1-x]! d[x]!) s r=Go.Stb.dC aP lo mi hi d) (fun⟨s,r⟩=>r-s) ((if(lo+hi)/2<mi then(lo+hi)/2+mi-hi else lo,if(lo+hi)/2<mi then(lo+hi)/2 else mi)) ?_ ?_ ?_
  ·(try simp only[go_sem]);(first|rw[if_pos ab,if_pos ab]|rw[if_neg ab,if_neg ab]);(try simp only[List.set_set,List.length_set]);(repeat'(first|assumption|exact bu.wk (hob _)|exact dm|exact .inr (decide_eq_true hid)|refine And.intro ?_ ?_|(simp;done)));done
  ·first|(rw[if_pos ab,if_pos ab];exact⟨by omega,by omega,by omega,by omega,by omega,by unfold Go.Stb.dC;rw[if_pos ab,if_pos ab]⟩)|(rw[if_neg ab,if_neg ab];exact⟨by omega,by omega,by omega,by omega,by omega,by unfold Go.Stb.dC;rw[if_neg ab,if_neg ab]⟩)
  rintro⟨s,r⟩ ⟨g1,g2,g3,g4,g5,g6⟩
  simp only[go_sem,hset,List.set_set,List.length_set])
 |(
  first
  |(refine⟨((i+j)/2+1,j),?_,⟨by show mi≤(i+j)/2+1;omega,by show(i+j)/2+1≤j;omega,g3,by rw[←g4];exact(tq ab (xF ae)).symm⟩,by show j-((i+j)/2+1)<j-i;omega⟩
    (try simp only[go_sem]);(try rw[av ab ab]);(try simp only[List.set_set,List.length_set]);(repeat'(first|assumption|exact bu.wk (hob _)|exact dm|exact .inr (decide_eq_true hid)|refine And.intro ?_ ?_|exact .inr rfl));done)
  |(refine⟨(i,(i+j)/2),?_,⟨g1,by show i≤(i+j)/2;omega,by show(i+j)/2≤hi;omega,by rw[←g4];exact(uw ab (zE ae)).symm⟩,by show(i+j)/2-i<j-i;omega⟩
    (try simp only[go_sem]);(try simp only[List.set_set,List.length_set]);(repeat'(first|assumption|exact bu.wk (hob _)|exact dm|exact .inr (decide_eq_true hid)|refine And.intro ?_ ?_));done))
 |(
  refine⟨(k+1,Go.Sort.swp e k (k+1)),?_,?_,?_⟩
  ·(try simp only[go_sem]);(try rw[av ab ab]);(try simp only[List.set_set,List.length_set]);(repeat'(first|assumption|exact bu.wk (hob _)|exact dm|exact .inr (decide_eq_true hid)|refine And.intro ?_ ?_));done
  ·(try dsimp only);exact⟨by omega,by rw[Go.Sort.swp_size];exact k2,(Au ab).symm.trans k3⟩
  ·(try simp only[]);omega)
 |(
  first
  |(refine⟨((i+j)/2+1,j),?_,⟨by show lo≤(i+j)/2+1;omega,by show(i+j)/2+1≤j;omega,g3,by rw[←g4];exact(tq ab (Ck ae)).symm⟩,by show j-((i+j)/2+1)<j-i;omega⟩
    (try simp only[go_sem]);(try rw[av ab ab]);(try simp only[List.set_set,List.length_set]);(repeat'(first|assumption|exact bu.wk (hob _)|exact dm|exact .inr (decide_eq_true hid)|refine And.intro ?_ ?_|exact .inr rfl));done)
  |(refine⟨(i,(i+j)/2),?_,⟨g1,by show i≤(i+j)/2;omega,by show(i+j)/2≤mi;omega,by rw[←g4];exact(uw ab (A9 ae)).symm⟩,by show(i+j)/2-i<j-i;omega⟩
    (try simp only[go_sem]);(try simp only[List.set_set,List.length_set]);(repeat'(first|assumption|exact bu.wk (hob _)|exact dm|exact .inr (decide_eq_true hid)|refine And.intro ?_ ?_));done))
 |(
  refine⟨(k-1,Go.Sort.swp e k (k-1)),?_,?_,?_⟩
  ·(try simp only[go_sem]);(try rw[av ab ab]);(try simp only[List.set_set,List.length_set]);(repeat'(first|assumption|exact bu.wk (hob _)|exact dm|exact .inr (decide_eq_true hid)|refine And.intro ?_ ?_));done
  ·(try dsimp only);exact⟨by omega,by rw[Go.Sort.swp_size];exact k2,(wY ab).symm.trans k3⟩
  ·(try simp only[]);omega)
 |(
  first
  |(refine⟨((s+r)/2+1,r),?_,⟨by show lo≤(s+r)/2+1;omega,by show(lo+hi)/2+mi≤hi+((s+r)/2+1);omega,by show(s+r)/2+1≤r;omega,g4,g5,by rw[←g6];exact(tq ab (Ck ae)).symm⟩,by show r-((s+r)/2+1)<r-s;omega⟩
    (try simp only[go_sem]);(try rw[av ab ab]);(try simp only[List.set_set,List.length_set]);(repeat'(first|assumption|exact bu.wk (hob _)|exact dm|exact .inr (decide_eq_true hid)|refine And.intro ?_ ?_|exact .inr rfl));done)
  |(refine⟨(s,(s+r)/2),?_,⟨g1,g2,by show s≤(s+r)/2;omega,by show(s+r)/2≤(lo+hi)/2;omega,by show(s+r)/2≤mi;omega,by rw[←g6];exact(uw ab (A9 ae)).symm⟩,by show(s+r)/2-s<r-s;omega⟩
    (try simp only[go_sem]);(try simp only[List.set_set,List.length_set]);(repeat'(first|assumption|exact bu.wk (hob _)|exact dm|exact .inr (decide_eq_true hid)|refine And.intro ?_ ?_));done))
 |(
  refine aa.ret ?_
  (try simp only[gr,gv])
  (try simp only[List.set_set])
  first
  |exact hBr _ _ (by rw[Ic ab,gi,←k3,wm ab])
  |exact hBr _ _ (by rw[Wu ab ab,gi,←k3,zp ab]))
 |(exfalso;omega)
 |(refine hBn _ _ ?_;rw[yb ab ab gs he1 he2];rw[if_pos ab];done)
 |(refine hBn _ _ ?_;rw[yb ab ab gs he1 he2];rw[if_neg ab];done)
 |refine aa.fin ae ?_)
set_option maxRecDepth 100000 in
theorem Ki{ops:Array Oper}{l0:List Oper}{Q:Exit→St→Prop}{tmps up:List AV}{gl:Nat→Option (List AV)}{own:List (Option (List AV))}{tk:List Nat}{dst:Option Tmp}{x0 x1 x2:Operand}{tys:Array TypeId}{ty:TypeId}{pos:String}{after:Array Edge}{id m N:Nat}{d:Array Po}
 (hx0:St.ev ⟨tmps,own,tk,gl,none,up⟩ x0= .mu id 5 0 N (N+m))
 (hx1:St.ev ⟨tmps,own,tk,gl,none,up⟩ x1=i64 (N:Int))
 (hx2:St.ev ⟨tmps,own,tk,gl,none,up⟩ x2= .fn 104 [])
 (ho:own[id]?=some (some (aU d m)))
 (hbu:(tmps++up).all (AV.bO own.length tk.length)=true)
 (hbo:bu own own.length tk.length)
 (hl:N≤1000000)
 (hN:d.size=N)
 (hend:an E ops l0 Q (St.put ⟨tmps,own.set id (some (aU (Go.Stb.iP aP d) m)),tk,gl,none,up⟩ dst (.aC []))):an E ops (⟨dst,.call ⟨.value (.func 185),#[x0,x1,x2],tys⟩,ty,pos,after,none⟩::l0) Q ⟨tmps,own,tk,gl,none,up⟩:=by
 have hid:=bN ho
 obtain⟨ow,how⟩:∃ow:List (Option (List AV)),own=ow.set id (some (aU d m)):=⟨own,(mZ ho).symm⟩
 subst how
 rw[List.length_set] at hid
 have hob:∀d':Array Po,bu (ow.set id (some (aU d' m))) ow.length tk.length:=fun d'=>by
  have:=hbo.set (id:=id) (mU d' m);rwa[List.set_set,List.length_set] at this
 have hob2:∀d':Array Po,bu (ow.set id (some (aU d' m))) (ow.set id (some (aU d' m))).length tk.length:=fun d'=>by rw[List.length_set];exact hob d'
 rw[List.length_set] at hbu
 simp only[List.set_set] at hend
 refine an.call (caps:=[]) (rs:=[]) Tryz.func185 rfl Tryz.ntmps185 rfl af rfl rfl ?_
 show aa E _ _ ⟨([St.ev _ x0,St.ev _ x1,St.ev _ x2]++[])++List.replicate (63-3) (.v undef),_,tk,gl,none,tmps++up⟩
 rw[hx0,hx1,hx2]
 have hBn:∀(tm:List AV) (d':Array Po),d'=Go.Stb.iP aP d→bR E.P [] ⟨tmps,ow.set id (some (aU d m)),tk,gl,none,up⟩ (fun s z=>an E ops l0 Q (s.put dst z)) .normal ⟨tm,ow.set id (some (aU d' m)),tk,gl,none,tmps++up⟩:=fun tm d' e=>by subst e;exact⟨rfl,hend⟩
 have hBr:∀(tm:List AV) (d':Array Po),d'=Go.Stb.iP aP d→bR E.P [] ⟨tmps,ow.set id (some (aU d m)),tk,gl,none,up⟩ (fun s z=>an E ops l0 Q (s.put dst z)) .ret ⟨tm,ow.set id (some (aU d' m)),tk,gl,none,tmps++up⟩:=fun tm d' e=>by subst e;exact⟨rfl,hend⟩
 generalize bR E.P [] ⟨tmps,ow.set id (some (aU d m)),tk,gl,none,up⟩ (fun s z=>an E ops l0 Q (s.put dst z))=Q1 at hBn hBr ⊢
 generalize tmps++up=up' at hbu hBn hBr ⊢
 clear hend ho hbo hx0 hx1 hx2
 have hset:∀x,(ow.set id x)[id]?=some x:=fun x=>List.getElem?_set_self hid
 repeat'(first
 |refine aa.aj fun K hK=>?_
 |(
  refine aa.here 5 20 4 rfl ?_
  have w0:IntKind.i64.wrap (((x+20:Nat):Int)+20)=((x+20+20:Nat):Int):=by rw[av ab ab];omega
  refine aa.region ?_;simp only[go_sem,hset,List.set_set,List.length_set,w0])
 |(
  refine aa.here 8 31 4 rfl ?_
  have w0:IntKind.i64.wrap ((2:Int)*s)=((2*s:Nat):Int):=by rw[av ab ab];omega
  refine aa.region ?_;simp only[go_sem,hset,List.set_set,List.length_set,w0])
 |(
  refine aa.here 12 45 5 rfl ?_
  have w0:IntKind.i64.wrap ((2:Int)*s)=((2*s:Nat):Int):=by rw[av ab ab];omega
  have w1:IntKind.i64.wrap (((x+2*s:Nat):Int)+((2*s:Nat):Int))=((x+2*s+2*s:Nat):Int):=by rw[av ab ab];omega
  refine aa.region ?_;simp only[go_sem,hset,List.set_set,List.length_set,w0,w1])
 |(
  refine aa.here 13 49 4 rfl ?_
  have w0:IntKind.i64.wrap ((x:Int)+s)=((x+s:Nat):Int):=by rw[av ab ab];omega
  refine aa.region ?_;simp only[go_sem,hset,List.set_set,List.length_set,w0])
 |(
  refine aa.here 16 61 3 rfl ?_
  first
  |rw[show aU (Go.Stb.cQ aP x (x+s) N e2) m=aU (Go.Stb.eS aP N s 0 (2*s) e) m by rw[←k3,wH ab ab ab]]
  |rw[show aU e2 m=aU (Go.Stb.eS aP N s 0 (2*s) e) m by rw[←k3,AK ab ab ab]]
  have z3:(Go.Stb.eS aP N s 0 (2*s) e).size=N:=by
   rw[←k3]
   rcases Nat.lt_or_ge (x+s) N with q|q
   ·rw[wH ab ab ab,wq];exact k2
   ·rw[AK ab ab ab];exact k2
  have w0:IntKind.i64.wrap ((s:Int)*2)=((s*2:Nat):Int):=by rw[av ab ab];omega
  refine aa.region ?_;simp only[go_sem,hset,List.set_set,List.length_set,w0])
 |(
  refine aa.here 3 14 5 rfl ?_
  refine aa.bA ?_
  refine an.at 5 4 rfl ?_
  simp only[go_sem,hset,List.set_set,List.length_set]
  (repeat(refine⟨⟨_,rfl⟩,?_⟩))
  refine Cs (id:=id) (m:=m) (N:=N) (d:=e) (lo:=x) (hi:=x+20) bz bz bz bz (hset _) (by simp only[List.length_set,List.all_append,hbu,List.all_cons,List.all_nil,List.cons_append,List.nil_append,AV.bO,AV.eh,AV.de,decide_eq_true hid,Bool.and_true,Bool.true_and,List.all_replicate]) (hob2 _) hl (by(assumption)) ab ab ?_
  simp only[go_sem,hset,List.set_set,List.length_set]
  refine an.of ?_
  (try simp only[go_sem,hset,List.set_set,List.length_set]))
 |(
  refine aa.here 6 23 5 rfl ?_
  refine aa.bA ?_
  refine an.at 5 4 rfl ?_
  simp only[go_sem,hset,List.set_set,List.length_set]
  (repeat(refine⟨⟨_,rfl⟩,?_⟩))
  refine Cs (id:=id) (m:=m) (N:=N) (d:=e) (lo:=x) (hi:=N) bz bz bz bz (hset _) (by simp only[List.length_set,List.all_append,hbu,List.all_cons,List.all_nil,List.cons_append,List.nil_append,AV.bO,AV.eh,AV.de,decide_eq_true hid,Bool.and_true,Bool.true_and,List.all_replicate]) (hob2 _) hl (by(assumption)) ab ab ?_
  simp only[go_sem,hset,List.set_set,List.length_set]
  refine an.of ?_
  (try simp only[go_sem,hset,List.set_set,List.length_set])
  rw[show Go.Sort.insertionSort aP e x N=Go.Stb.gd aP N 0 20 d by rw[←g3,Bi ab]]
  have z1:(Go.Stb.gd aP N 0 20 d).size=N:=by rw[←g3,Bi ab,zg ab ab];exact g2
  generalize he1:Go.Stb.gd aP N 0 20 d=e1 at z1 ⊢)
 |(
  refine aa.here 10 36 8 rfl ?_
  have w0:IntKind.i64.wrap ((x:Int)+s)=((x+s:Nat):Int):=by rw[av ab ab];omega
  refine aa.bA ?_
  refine an.at 8 7 rfl ?_
  simp only[go_sem,hset,List.set_set,List.length_set,w0]
  (repeat(refine⟨⟨_,rfl⟩,?_⟩))
  refine Ar _ (id:=id) (m:=m) (N:=N) (d:=e2) (lo:=x) (mi:=x+s) (hi:=x+2*s) bz bz bz bz bz (hset _) (by simp only[List.length_set,List.all_append,hbu,List.all_cons,List.all_nil,List.cons_append,List.nil_append,AV.bO,AV.eh,AV.de,decide_eq_true hid,Bool.and_true,Bool.true_and,List.all_replicate]) (hob2 _) hl (by(assumption)) ab ab ab ?_ (Nat.le_refl _)
  simp only[go_sem,hset,List.set_set,List.length_set,w0]
  refine an.of ?_
  (try simp only[go_sem,hset,List.set_set,List.length_set,w0]))
 |(
  refine aa.here 15 55 6 rfl ?_
  refine aa.bA ?_
  refine an.at 6 5 rfl ?_
  simp only[go_sem,hset,List.set_set,List.length_set]
  (repeat(refine⟨⟨_,rfl⟩,?_⟩))
  refine Ar _ (id:=id) (m:=m) (N:=N) (d:=e2) (lo:=x) (mi:=x+s) (hi:=N) bz bz bz bz bz (hset _) (by simp only[List.length_set,List.all_append,hbu,List.all_cons,List.all_nil,List.cons_append,List.nil_append,AV.bO,AV.eh,AV.de,decide_eq_true hid,Bool.and_true,Bool.true_and,List.all_replicate]) (hob2 _) hl (by(assumption)) ab ab ab ?_ (Nat.le_refl _)
  simp only[go_sem,hset,List.set_set,List.length_set]
  refine an.of ?_
  (try simp only[go_sem,hset,List.set_set,List.length_set]))
 |(refine aa.region ?_;simp only[go_sem,hset,List.set_set,List.length_set])
 |(refine hK _ ?_;clear hK K)
 |refine aa.block ?_
 |refine aa.cond rfl (fun c=>?_) (fun c=>?_)<;>(try simp only[dD] at c)
 |refine aa.skip ?_
 |(refine aa.exit ?_;simp only[go_sem,hset,List.set_set,List.length_set])
 |(
  refine aa.here 2 11 3 rfl ?_
  refine aa.ck (ι:=Nat×Array Po) [11,12,13,14,15,16,17,18,19,20,21,22] (fun⟨x,e⟩=>[(7,i64 x),(8,i64 ((x+20:Nat):Int))]) (fun⟨x,e⟩=>ow.set id (some (aU e m))) (fun⟨x,e⟩=>tk) (fun⟨x,e⟩=>x≤N∧e.size=N∧Go.Stb.gd aP N x (x+20) e=Go.Stb.gd aP N 0 20 d) (fun⟨x,e⟩=>N-x) ((0,d)) ?_ ?_ ?_
  ·(try simp only[go_sem]);(try simp only[List.set_set,List.length_set]);(repeat'(first|assumption|exact bu.wk (hob _)|exact dm|exact .inr (decide_eq_true hid)|refine And.intro ?_ ?_));done
  ·exact⟨by omega,hN,rfl⟩
  rintro⟨x,e⟩ ⟨g1,g2,g3⟩
  simp only[go_sem,hset,List.set_set,List.length_set])
 |(
  refine aa.here 7 28 3 rfl ?_
  refine aa.ck (ι:=Nat×Array Po) [7,8,9,28,29,30,31,32,33,34,35,36,37,38,39,40,41,42,43,44,45,46,47,48,49,50,51,52,53,54,55,56,57,58,59,60,61,62] (fun⟨s,e⟩=>[(6,i64 s)]) (fun⟨s,e⟩=>ow.set id (some (aU e m))) (fun⟨s,e⟩=>tk) (fun⟨s,e⟩=>0<s∧s≤2*N+20∧e.size=N∧Go.Stb.jb aP N s e=Go.Stb.jb aP N 20 e1) (fun⟨s,e⟩=>N-s) ((20,e1)) ?_ ?_ ?_
  ·(try simp only[go_sem]);(try simp only[List.set_set,List.length_set]);(repeat'(first|assumption|exact bu.wk (hob _)|exact dm|exact .inr (decide_eq_true hid)|refine And.intro ?_ ?_));done
  ·exact⟨by omega,by omega,z1,rfl⟩
  rintro⟨s,e⟩ ⟨j1,j2,j3,j4⟩
  simp only[go_sem,hset,List.set_set,List.length_set])
 |(
  refine aa.here 9 33 3 rfl ?_
  refine aa.ck (ι:=Nat×Array Po) [33,34,35,36,37,38,39,40,41,42,43,44,45,46,47,48] (fun⟨x,e2⟩=>[(7,i64 x),(8,i64 ((x+2*s:Nat):Int))]) (fun⟨x,e2⟩=>ow.set id (some (aU e2 m))) (fun⟨x,e2⟩=>tk) (fun⟨x,e2⟩=>x≤N∧e2.size=N∧Go.Stb.eS aP N s x (x+2*s) e2=Go.Stb.eS aP N s 0 (2*s) e) (fun⟨x,e2⟩=>N-x) ((0,e)) ?_ ?_ ?_
  ·(try simp only[go_sem]);(try rw[Nat.zero_add]);(try simp only[List.set_set,List.length_set]);(repeat'(first|assumption|exact bu.wk (hob _)|exact dm|exact .inr (decide_eq_true hid)|refine And.intro ?_ ?_));done
  ·exact⟨by omega,j3,by rw[Nat.zero_add]⟩
  rintro⟨x,e2⟩ ⟨k1,k2,k3⟩
  simp only[go_sem,hset,List.set_set,List.length_set])
 |(
  refine⟨(x+20,Go.Sort.insertionSort aP e x (x+20)),?_,?_,?_⟩
  ·(try simp only[go_sem]);(try rw[av ab ab]);(try simp only[List.set_set,List.length_set]);(repeat'(first|assumption|exact bu.wk (hob _)|exact dm|exact .inr (decide_eq_true hid)|refine And.intro ?_ ?_));done
  ·(try dsimp only);exact⟨by omega,by rw[zg ab ab];exact g2,(YM ab).symm.trans g3⟩
  ·(try simp only[]);omega)
 |(
  refine⟨(s*2,Go.Stb.eS aP N s 0 (2*s) e),?_,?_,?_⟩
  ·(try simp only[go_sem]);(try rw[av ab ab]);(try simp only[List.set_set,List.length_set]);(repeat'(first|assumption|exact bu.wk (hob _)|exact dm|exact .inr (decide_eq_true hid)|refine And.intro ?_ ?_));done
  ·(try dsimp only);exact⟨by omega,by omega,z3,(D1 ab ab).symm.trans j4⟩
  ·(try simp only[]);omega)
 |(
  refine⟨(x+2*s,Go.Stb.cQ aP x (x+s) (x+2*s) e2),?_,?_,?_⟩
  ·(try simp only[go_sem]);(try rw[av ab ab]);(try simp only[List.set_set,List.length_set]);(repeat'(first|assumption|exact bu.wk (hob _)|exact dm|exact .inr (decide_eq_true hid)|refine And.intro ?_ ?_));done
  ·(try dsimp only);exact⟨by omega,by rw[wq];exact k2,(Ey ab ab).symm.trans k3⟩
  ·(try simp only[]);omega)
 |(refine hBn _ _ ?_;unfold Go.Stb.iP;rw[hN,he1,←j4,Rk ab];done)
 |refine aa.fin ae ?_)
set_option maxRecDepth 100000 in
theorem VW{ops:Array Oper}{l0:List Oper}{Q:Exit→St→Prop}{tmps up:List AV}{gl:Nat→Option (List AV)}{own:List (Option (List AV))}{tk:List Nat}{dst:Option Tmp}{x0 x1:Operand}{tys:Array TypeId}{ty:TypeId}{pos:String}{after:Array Edge}{id m N:Nat}{d:Array Po}
 (hx0:St.ev ⟨tmps,own,tk,gl,none,up⟩ x0= .mu id 5 0 N (N+m))
 (hx1:St.ev ⟨tmps,own,tk,gl,none,up⟩ x1= .fn 104 [])
 (ho:own[id]?=some (some (aU d m)))
 (hbu:(tmps++up).all (AV.bO own.length tk.length)=true)
 (hbo:bu own own.length tk.length)
 (hl:N≤1000000)
 (hN:d.size=N)
 (hend:an E ops l0 Q (St.put ⟨tmps,own.set id (some (aU (Go.Stb.iP aP d) m)),tk,gl,none,up⟩ dst (.aC []))):an E ops (⟨dst,.call ⟨.value (.func 137),#[x0,x1],tys⟩,ty,pos,after,none⟩::l0) Q ⟨tmps,own,tk,gl,none,up⟩:=by
 have hid:=bN ho
 obtain⟨ow,how⟩:∃ow:List (Option (List AV)),own=ow.set id (some (aU d m)):=⟨own,(mZ ho).symm⟩
 subst how
 rw[List.length_set] at hid
 have hob:∀d':Array Po,bu (ow.set id (some (aU d' m))) ow.length tk.length:=fun d'=>by
  have:=hbo.set (id:=id) (mU d' m);rwa[List.set_set,List.length_set] at this
 have hob2:∀d':Array Po,bu (ow.set id (some (aU d' m))) (ow.set id (some (aU d' m))).length tk.length:=fun d'=>by rw[List.length_set];exact hob d'
 rw[List.length_set] at hbu
 simp only[List.set_set] at hend
 refine an.call (caps:=[]) (rs:=[]) Tryz.func137 rfl Tryz.ntmps137 rfl af rfl rfl ?_
 show aa E _ _ ⟨([St.ev _ x0,St.ev _ x1]++[])++List.replicate (9-2) (.v undef),_,tk,gl,none,tmps++up⟩
 rw[hx0,hx1]
 have hBn:∀(tm:List AV) (d':Array Po),d'=Go.Stb.iP aP d→bR E.P [] ⟨tmps,ow.set id (some (aU d m)),tk,gl,none,up⟩ (fun s z=>an E ops l0 Q (s.put dst z)) .normal ⟨tm,ow.set id (some (aU d' m)),tk,gl,none,tmps++up⟩:=fun tm d' e=>by subst e;exact⟨rfl,hend⟩
 have hBr:∀(tm:List AV) (d':Array Po),d'=Go.Stb.iP aP d→bR E.P [] ⟨tmps,ow.set id (some (aU d m)),tk,gl,none,up⟩ (fun s z=>an E ops l0 Q (s.put dst z)) .ret ⟨tm,ow.set id (some (aU d' m)),tk,gl,none,tmps++up⟩:=fun tm d' e=>by subst e;exact⟨rfl,hend⟩
 generalize bR E.P [] ⟨tmps,ow.set id (some (aU d m)),tk,gl,none,up⟩ (fun s z=>an E ops l0 Q (s.put dst z))=Q1 at hBn hBr ⊢
 generalize tmps++up=up' at hbu hBn hBr ⊢
 clear hend ho hbo hx0 hx1
 have hset:∀x,(ow.set id x)[id]?=some x:=fun x=>List.getElem?_set_self hid
 repeat'(first
 |(
  refine aa.here 0 4 5 rfl ?_
  refine aa.bA ?_
  refine an.at 5 4 rfl ?_
  simp only[go_sem,hset,List.set_set,List.length_set]
  (repeat(refine⟨⟨_,rfl⟩,?_⟩))
  refine Ki (id:=id) (m:=m) (N:=N) (d:=d) bz bz bz (hset _) (by simp only[List.length_set,List.all_append,hbu,List.all_cons,List.all_nil,List.cons_append,List.nil_append,AV.bO,AV.eh,AV.de,decide_eq_true hid,Bool.and_true,Bool.true_and,List.all_replicate]) (hob2 _) hl (by(assumption))  ?_
  simp only[go_sem,hset,List.set_set,List.length_set]
  refine an.of ?_
  (try simp only[go_sem,hset,List.set_set,List.length_set]))
 |(exact hBn _ _ rfl))
theorem Qn(σ:Nat→Option Nat)(a:List Po)(m:Nat):(a.map bL++spare 5 m).map (AV.ch σ)=a.map bL++spare 5 m:=sA fun _=>rfl
abbrev tr(l:List (List Po)):AV:= .sl none 1 (l.map fun x=>AV.sl none 5 (x.map bL))
theorem zS{n:Nm}{l:List Po}{i:Nat}{qs vs:List Int}(hi:l.length≤i)(hq:qs=(l.take i).map (·.aq))(hv:vs=(l.take i).map (·.value))(ho:(l.take i).any (·.over)=false)(h:(bF qs).2=false∨(bF vs).2=false):ed n l=⟨n.1,n.2,0,0,true⟩:=by
 rw[zU hi hq hv ho,if_neg]
 rcases h with h|h<;>simp[h]
theorem Rx{n:Nm}{l:List Po}{i:Nat}{qs vs:List Int}(hi:l.length≤i)(hq:qs=(l.take i).map (·.aq))(hv:vs=(l.take i).map (·.value))(ho:(l.take i).any (·.over)=false)(h:(bF qs).2=true)(h2:(bF vs).2=true):ed n l=⟨n.1,n.2,(bF qs).1,(bF vs).1,false⟩:=by
 rw[zU hi hq hv ho,if_pos (by rw[h,h2];rfl)]
abbrev ez(l:List Po):AV:= .sl none 5 (l.map bL)
theorem TJ{no nt m:Nat}{l:List Po}:∀es,some (l.map bL++spare 5 m)=some es→∀e∈es,∀z∈e.leaves,z.bO no nt=true:=mY fun x z hz=>by
 simp only[AV.leaves,List.mem_cons,List.not_mem_nil,or_false] at hz
 rcases hz with rfl|rfl|rfl|rfl|rfl<;>rfl
theorem IA(l:List Po):∀e∈l.map bL,∀x∈e.leaves,x.dW=some x:=by
 intro e he x hx
 obtain⟨o,_,rfl⟩:=List.mem_map.1 he
 simp only[AV.leaves,List.mem_cons,List.not_mem_nil,or_false] at hx
 rcases hx with rfl|rfl|rfl|rfl|rfl<;>rfl
theorem VX(l:List Po)(hl:l.length≤1000000):ai E 40 [ez l] (fun r t=>r=bl (cE l)∧t=[]):=by
 refine ai.aw (n:=47) (rs:=[.tmp 2]) Tryz.func40 rfl Tryz.ntmps40 rfl ?_
 repeat'(first
 |refine aa.aj fun K hK=>?_
 |(
  refine aa.here 3 9 6 rfl ?_
  obtain⟨x,hx⟩:∃x,l[i]?=some x:=⟨_,List.getElem?_eq_getElem ab⟩
  refine aa.region ?_;simp only[go_sem])
 |(refine aa.region ?_;simp only[go_sem])
 |(refine aa.here 4 12 12 rfl ?_;refine aa.bf [0,1,2,3,4,5,6,7,8,9,10,11] [] af af rfl ?_;simp only[go_sem])
 |(refine hK _ ?_;clear hK K)
 |refine aa.block ?_
 |refine aa.cond rfl (fun c=>?_) (fun c=>?_)<;>first|exact Bool.noConfusion c|(try simp only[dD] at c)
 |refine aa.skip ?_
 |(refine aa.exit ?_;simp only[go_sem])
 |(refine ah.one (ri b x) af rfl ?_;simp only[go_sem])
 |(refine ah.one (pV x.aq) af rfl ?_;simp only[go_sem])
 |(refine ah.one (pV x.value) af rfl ?_;simp only[go_sem])
 |(refine aL.split (fun h=>?_) (fun h=>?_)<;>simp only[h,go_sem]<;>(try simp only[dD] at h))
 |(refine aM.bG ae ?_;(try simp only[go_sem]))
 |((first|refine aM.nth ?_ (fun b hb=>?_)|with_reducible refine And.intro ?_ ?_);(focus(first|(rw[av ab ab];omega)|(simp;done)));(try simp only[hb,go_sem]))
 |(
  refine aa.here 2 8 1 rfl ?_
  refine aa.cC (ι:=Nat) [2,3,4,8,9,10,11,12,13,14,15,16,17,18,19,20,21,22,23,24,25,26,27,28,29,30,31,32,33,34,35,36,37,38,39,40,41,42,43,44,45,46] (fun(i:Nat)=>[(7,i64 i)]) (fun(i:Nat)=>i≤l.length∧∀k,k<i→jP l k=true) (fun(i:Nat)=>l.length-i) (0) ?_ ?_ ?_
  ·(try simp only[go_sem]);(repeat'(first|fail));done
  ·exact⟨by omega,fun k hk=>by omega⟩
  rintro i ⟨h1,h3⟩
  simp only[go_sem])
 |(
  refine⟨i+1,?_,?_,?_⟩
  ·(try simp only[go_sem]);(try rw[av ab ab]);(repeat'(exact .inr rfl));done
  ·exact⟨by omega,rH h3 (by first|exact CG hx ab (by first|exact rF ae ae ae |exact rP ae ae ae ae)|(rw[mo ab ab] at hb;exact w4 hx hb (by first|exact rF ae ae ae |exact rP ae ae ae ae) ab))⟩
  ·(try simp only[]);omega)
 |(
  refine aa.ret ?_
  refine aB.is ?_;simp only[go_sem,aE,aI,aH,aG,aJ,aF]<;>(first|(rw[rG hx (xO hx (by first|exact zz ae |exact zG ae |exact rV ae (.inl ae)|exact rV ae (.inr ae)))];done)|(rw[mo ab ab] at hb;rw[rG hx (xf hx ab hb ab)];done)|(rw[Cy ab h3];done)))
 |refine aa.fin ae ?_)
theorem Wc(l:List Po)(p0:Po)(hl:l.length≤1000000)(hp0:l[0]?=some p0):ai E 138 [ez l] (fun r t=>r=bL (ed (aN p0) l)∧t=[]):=by
 refine ai.aw (n:=65) (rs:=[.cell 2 49]) Tryz.func138 rfl Tryz.ntmps138 rfl ?_
 repeat'(first
 |refine aa.aj fun K hK=>?_
 |(
  refine aa.here 5 25 4 rfl ?_
  obtain⟨x,hx⟩:∃x,l[i]?=some x:=⟨_,List.getElem?_eq_getElem ab⟩
  refine aa.region ?_;simp only[go_sem])
 |(refine aa.region ?_;simp only[go_sem])
 |(refine aa.here 1 12 11 rfl ?_;refine aa.bf [0,1,2,3,4,5,6,7,8,9,10] [3] af af rfl ?_;simp only[go_sem])
 |(refine hK _ ?_;clear hK K)
 |refine aa.block ?_
 |refine aa.cond rfl (fun c=>?_) (fun c=>?_)<;>first|exact Bool.noConfusion c|(try simp only[dD] at c)
 |refine aa.skip ?_
 |(refine aa.exit ?_;simp only[go_sem])
 |(refine ah.one (qv qs ab) af rfl ?_;simp only[go_sem])
 |(refine ah.one (qv vs ab) af rfl ?_;simp only[go_sem])
 |(refine aL.split (fun h=>?_) (fun h=>?_)<;>simp only[h,go_sem]<;>(try simp only[dD] at h))
 |(refine aM.bG ae ?_;(try simp only[go_sem]))
 |((with_reducible refine And.intro ?_ ?_);(focus(first|omega|(simp;done)));(try simp only[hb,go_sem]))
 |(
  refine aa.here 4 24 1 rfl ?_
  refine aa.fu 4 1 rfl ?_
  refine aa.fu 5 1 rfl ?_
  simp only[go_sem]
  refine aa.ck (ι:=Nat×List Int×List Int) [7,24,25,26,27,28,29,30,31,32,33,34,35,36,37,38,39,40,41] (fun⟨i,qs,vs⟩=>[(23,i64 i),(4,.sl (some 0) 1 (qs.map i64)),(5,.sl (some 1) 1 (vs.map i64))]) (fun⟨i,qs,vs⟩=>[some [.agg [str [],str [],i64 0,i64 0,bl false]],some [.agg [str p0.acc,str p0.sym,i64 0,i64 0,bl false]]]) (fun⟨i,qs,vs⟩=>[qs.length,vs.length]) (fun⟨i,qs,vs⟩=>i≤l.length∧qs=(l.take i).map (·.aq)∧vs=(l.take i).map (·.value)∧(l.take i).any (·.over)=false) (fun⟨i,qs,vs⟩=>l.length-i) ((0,[],[])) ?_ ?_ ?_
  ·(try simp only[go_sem]);(repeat'(first|refine And.intro ?_ ?_|trivial|exact .inr (aR rfl)));done
  ·exact⟨by omega,rfl,rfl,rfl⟩
  rintro⟨i,qs,vs⟩ ⟨h1,h2,h3,h4⟩
  simp only[go_sem]
  have hql:qs.length=i:=by rw[h2,List.length_map,List.length_take];omega
  have hvl:vs.length=i:=by rw[h3,List.length_map,List.length_take];omega)
 |(
  first
  |(refine⟨(i+1,qs++[x.aq],vs++[x.value]),?_,⟨by show i+1≤l.length;omega,by show qs++[x.aq]=(l.take (i+1)).map (·.aq);rw[h2,cF hx];simp,by show vs++[x.value]=(l.take (i+1)).map (·.value);rw[h3,cF hx];simp,Wo hx h4 ae⟩,by show l.length-(i+1)<l.length-i;omega⟩
    (try simp only[go_sem]);(try rw[av ab ab]);(repeat'(first|refine And.intro ?_ ?_|exact .inr rfl|trivial|exact .inr (aR rfl)|(simp;done)));done))
 |(
  refine aa.ret ?_
  refine aB.is ?_;simp only[go_sem,aE,aI,aH,aG,aJ,aF]<;>(first|(rw[JM hx ae];simp[aN];done)|(rw[zS ab h2 h3 h4 (.inl ae)];simp[aN];done)|(rw[zS ab h2 h3 h4 (.inr ae)];simp[aN];done)|(rw[Rx ab h2 h3 h4 ae ae];simp[aN];done)))
 |refine aa.fin ae ?_)
end Go.Proofs.YtajeeghgiilhiaaGreat
end
