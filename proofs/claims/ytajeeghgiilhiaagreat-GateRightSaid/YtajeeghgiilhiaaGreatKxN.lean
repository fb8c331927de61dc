/- Texts of one chain, put together (G34, G35, G36, G12, G13, Lw, Ls, G14, G15, G16). -/
import Derived.Test.YtajeeghgiilhiaaGreatKxL
import Derived.Test.YtajeeghgiilhiaaGreatKxM
import Derived.Test.YtajeeghgiilhiaaGreatKxJ
import Derived.Test.YtajeeghgiilhiaaGreatKxK
import Derived.Test.YtajeeghgiilhiaaGreatKxA
set_option linter.unusedVariables false
set_option linter.unusedSimpArgs false
set_option maxHeartbeats 16000000
set_option maxRecDepth 8000
section
namespace Go.Proofs.YtajeeghgiilhiaaGreat
open Go Go.Abs Go.RowKit Go.Bk
theorem Tk(v u:Value)(w:World)(h:(Extern.SlicesOverlaps.overlaps #[56,56] #[4] #[v,u]).run E.P w= .ok (.bool false) w):(callFunc 191 #[v,u]).run E.P w= .ok (.value (.bool false)) w:=by
 show(callFunc 191 _).run Tryz.prog w=_
 rw[run_callFunc_extern Tryz.func191 af af af (e:=Extern.SlicesOverlaps.overlaps #[56,56] #[4]) af]
 have h:(Extern.SlicesOverlaps.overlaps #[56,56] #[4] #[v,u]).run Tryz.prog w= .ok (.bool false) w:=h
 rw[h];rfl
theorem pQ(l:List Lm)(m:Nat):(l.map br++spare 6 m).length=l.length+m:=by simp[cJ]
theorem CO(l:List Lm)(p:Nat):∀e∈(l.map br).drop p,∀x∈e.leaves,x≠.any:=by
 intro e he x hx
 obtain⟨o,_,rfl⟩:=List.mem_map.1 (List.mem_of_mem_drop he)
 simp only[AV.leaves,List.mem_cons,List.not_mem_nil,or_false] at hx
 rcases hx with rfl|rfl|rfl|rfl|rfl|rfl<;>simp
theorem rX{l:List Lm}{p m:Nat}(hp:p≤l.length):((l.map br++spare 6 m).drop p).take (l.length-p)=(l.map br).drop p:=by
 rw[List.drop_append_of_le_length (by simp;omega),List.take_left' aD]
theorem rq(k m j:Nat):(spare k m).drop j=spare k (m-j):=by unfold spare;rw[List.drop_replicate]
def lj(l:List Lm)(x:Lm)(p m2:Nat):List AV:=(l.map br).take p++([br x]++(spare 6 (l.length+1-p+m2)).drop 1)
def mc(l:List Lm)(p m:Nat):List AV:=(l.map br++spare 6 m).take (p+1)++((l.map br).drop p++spare 6 (m-1))
def kN(l:List Lm)(x:Lm)(p m:Nat):List AV:=(l.take p++x::l.drop p).map br++spare 6 m
theorem VP(l:List Lm)(x:Lm)(m:Nat):l.map br++[br x]++spare 6 m=kN l x l.length m:=by unfold kN;simp
theorem V8{l:List Lm}{x:Lm}{p m m2:Nat}(hp:p≤l.length):((l.map br++spare 6 m).take p++spare 6 (l.length+1-p+m2)).take p++([br x]++((l.map br++spare 6 m).take p++spare 6 (l.length+1-p+m2)).drop (p+[br x].length)) =
 lj l x p m2:=by
 unfold lj
 have e:(l.map br++spare 6 m).take p=(l.map br).take p:=List.take_append_of_le_length (by simp;omega)
 have hl:((l.map br).take p).length=p:=by simp;omega
 rw[e,List.take_left' hl,List.length_singleton,←List.drop_drop,List.drop_left' hl]
theorem Es{l:List Lm}{x:Lm}{p m2:Nat}(hp:p≤l.length):(lj l x p m2).length=l.length+1+m2:=by
 unfold lj
 simp only[rq,List.length_append,List.length_take,List.length_map,List.length_singleton,cJ];omega
theorem y9{l:List Lm}{x:Lm}{p:Nat}:(l.take p++x::l.drop p).map br=(l.map br).take p++([br x]++(l.map br).drop p):=by
 rw[List.map_append,List.map_cons,List.map_take,List.map_drop];rfl
theorem Vr{l:List Lm}{x:Lm}{p m m2:Nat}(hp:p≤l.length):(lj l x p m2).take (p+1)++(((l.map br++spare 6 m).drop p).take (l.length-p)++(lj l x p m2).drop (p+1+(l.length-p)))=kN l x p m2:=by
 unfold lj kN
 have hl:((l.map br).take p++[br x]).length=p+1:=by simp;omega
 rw[rX hp,←List.append_assoc ((l.map br).take p) [br x] _,List.take_left' hl,←List.drop_drop,List.drop_left' hl,y9,rq,rq,show l.length+1-p+m2-1-(l.length-p)=m2 by omega]
 simp only[List.append_assoc]
theorem OI{l:List Lm}{p m:Nat}(hp:p≤l.length)(hm:1≤m):(l.map br++spare 6 m).take (p+1)++(((l.map br++spare 6 m).drop p).take (l.length-p)++(l.map br++spare 6 m).drop (p+1+(l.length-p)))=mc l p m:=by
 unfold mc
 rw[rX hp,show p+1+(l.length-p)=l.length+1 by omega,←List.drop_drop,List.drop_left' aD,rq]
theorem SP{l:List Lm}{p m:Nat}(hp:p≤l.length)(hm:1≤m):(mc l p m).length=l.length+m:=by
 unfold mc
 simp only[List.length_append,List.length_take,List.length_map,List.length_drop,cJ];omega
theorem Nk{l:List Lm}{x:Lm}{p m:Nat}(hp:p≤l.length)(hm:1≤m):(mc l p m).take p++([br x]++(mc l p m).drop (p+[br x].length))=kN l x p (m-1):=by
 unfold mc kN
 have hl:((l.map br++spare 6 m).take (p+1)).length=p+1:=by simp[cJ];omega
 rw[List.length_singleton,List.drop_left' hl,List.take_append_of_le_length ab,List.take_take,Nat.min_eq_left ab,List.take_append_of_le_length (by simp;omega),y9]
 simp only[List.append_assoc]
set_option maxRecDepth 100000 in
theorem Rt{ops:Array Oper}{l0:List Oper}{Q:Exit→St→Prop}{tmps up:List AV}{gl:Nat→Option (List AV)}{own:List (Option (List AV))}{tk:List Nat}{dst:Option Tmp}{x0 x1 x2:Operand}{tys:Array TypeId}{ty:TypeId}{pos:String}{after:Array Edge}{id p m:Nat}{t0:Option Nat}{l:List Lm}{x:Lm}
 (hx0:St.ev ⟨tmps,own,tk,gl,none,up⟩ x0= .mu id 6 0 l.length (l.length+m)) (hx1:St.ev ⟨tmps,own,tk,gl,none,up⟩ x1=i64 (p:Int)) (hx2:St.ev ⟨tmps,own,tk,gl,none,up⟩ x2= .sl t0 6 [br x]) (ho:own[id]?=some (some (l.map br++spare 6 m))) (hp:p≤l.length) (hl:l.length≤1000)
 (h:∀(own':List (Option (List AV))) (id' m':Nat),own'[id']?=some (some (kN l x p m'))→an E ops l0 Q (St.put ⟨tmps,own',tk,gl,none,up⟩ dst (.mu id' 6 0 (l.length+1) (l.length+1+m')))):
 an E ops (⟨dst,.call ⟨.value (.func 149),#[x0,x1,x2],tys⟩,ty,pos,after,none⟩::l0) Q ⟨tmps,own,tk,gl,none,up⟩:=by
 refine an.call (caps:=[]) (rs:=[.tmp 6]) Tryz.func149 rfl Tryz.ntmps149 rfl af rfl rfl ?_
 show aa E _ _ ⟨([St.ev _ x0,St.ev _ x1,St.ev _ x2]++[])++List.replicate (95-3) (.v undef),own,tk,gl,none,tmps++up⟩
 rw[hx0,hx1,hx2]
 have hB0:∀(tm:List AV) (own':List (Option (List AV))) (id' m':Nat),tm[6]?=some (.mu id' 6 0 (l.length+1) (l.length+1+m'))→own'[id']?=some (some (kN l x p m'))→bR E.P [.tmp 6] ⟨tmps,own,tk,gl,none,up⟩ (fun s z=>an E ops l0 Q (s.put dst z)) .ret ⟨tm,own',tk,gl,none,tmps++up⟩:=by
  intro tm own' id' m' hu ho'
  refine⟨rfl,?_⟩
  have gu:∀ow,St.ev ⟨tm,ow,tk,gl,none,tmps++up⟩ (.tmp 6)= .mu id' 6 0 (l.length+1) (l.length+1+m'):=fun ow=>by simp[St.ev,List.getD_eq_getElem?_getD,hu]
  show an E ops l0 Q (St.put _ dst (gW [St.ev _ (.tmp 6)]))
  rw[gu]
  exact h own' id' m' ho'
 generalize bR E.P [.tmp 6] ⟨tmps,own,tk,gl,none,up⟩ (fun s z=>an E ops l0 Q (s.put dst z))=Q' at hB0 ⊢
 generalize tmps++up=up' at hB0 ⊢
 clear h hx0 hx1 hx2
 have hset:∀x,(own.set id x)[id]?=some x:=fun x=>List.getElem?_set_self (bN ho)
 have hidl:id<own.length:=bN ho
 have hnew:∀x:Option (List AV),(own++[x])[own.length]?=some x:=fun x=>by simp
 have hnew2:∀x y:Option (List AV),(own++[x]).set own.length y=own++[y]:=fun x y=>by simp
 have hold:∀x:Option (List AV),(own++[x])[id]?=some (some (l.map br++spare 6 m)):=fun x=>by rw[List.getElem?_append_left hidl];exact ho
 have h10:decide ((1:Int)=0)=false:=by decide
 have hw1:IntKind.i64.wrap ((l.length:Int)+1)=((l.length+1:Nat):Int):=by rw[av ab ab];omega
 have hw2:IntKind.i64.wrap ((p:Int)+1)=((p+1:Nat):Int):=by rw[av ab ab];omega
 have hw3:IntKind.i64.wrap (((l.length+1:Nat):Int)-p)=((l.length+1-p:Nat):Int):=by rw[av ab ab];omega
 repeat'(first
 |refine aa.aj fun K hK=>?_
 |(
  refine aa.here 1 10 3 rfl ?_
  refine aa.bA ?_
  refine an.at 3 2 rfl ?_
  simp only[go_sem,h10,hset,hw1,hw2,hw3]
  (repeat(refine⟨⟨_,rfl⟩,?_⟩))
  refine an.TP (e:=63) (k:=6) af af rfl rfl ab ?_
  refine an.of ?_
  (try simp only[go_sem,h10,hset,hw1,hw2,hw3]))
 |(
  refine aa.here 7 23 4 rfl ?_
  refine aa.bA ?_
  refine an.at 4 2 rfl ?_
  simp only[go_sem,h10,hset,hw1,hw2,hw3]
  (repeat(refine⟨⟨_,rfl⟩,?_⟩))
  refine an.xX (es:=l.map br) (xs:=[br x]) (m0:=m) zJ nh (by(rw[List.length_map];rfl)) rfl ho (by simp;omega) (by simp;omega) ?_
  intro m2
  rw[List.length_map]
  obtain rfl:p=l.length:=by omega
  rw[VP]
  refine an.of ?_
  (try simp only[go_sem,h10,hset,hw1,hw2,hw3]))
 |(
  refine aa.here 8 26 6 rfl ?_
  refine aa.bA ?_
  refine an.at 6 4 rfl ?_
  simp only[go_sem,h10,hset,hw1,hw2,hw3]
  (repeat(refine⟨⟨_,rfl⟩,?_⟩))
  refine an.C9 (e:=63) af rfl ?_
  refine an.of ?_
  (try simp only[go_sem,h10,hset,hw1,hw2,hw3]))
 |(
  refine aa.here 9 32 10 rfl ?_
  refine aa.bA ?_
  refine an.at 10 8 rfl ?_
  simp only[go_sem,h10,hset,hw1,hw2,hw3]
  (repeat(refine⟨⟨_,rfl⟩,?_⟩))
  have hm0:m=0:=by omega
  have hpl:p<l.length:=by omega
  refine⟨by omega,?_⟩
  refine an.EI (kn:= .i64) (id:=id) (i:=p) (cap:=l.length+m) (es:=(l.map br++spare 6 m)) (q:=l.length+1-p) nh af rfl rfl ho ab (by rw[pQ];omega) ab ab ab ab ?_
  intro m2
  rw[show p+(l.length+1-p)=l.length+1 by omega]
  refine an.of ?_
  (try simp only[go_sem,h10,hset,hw1,hw2,hw3]))
 |(
  refine aa.here 10 41 5 rfl ?_
  refine aa.bA ?_
  refine an.at 5 2 rfl ?_
  simp only[go_sem,h10,hset,hw1,hw2,hw3]
  (repeat(refine⟨⟨_,rfl⟩,?_⟩))
  refine an.j5 (e:=63) (l:=p) (k:=6) af af rfl rfl ab ab ab ?_
  refine an.at 2 1 rfl ?_
  simp only[go_sem,h10,hset,hw1,hw2,hw3]
  (repeat(refine⟨⟨_,rfl⟩,?_⟩))
  refine an.Az (xs:=[br x]) nh rfl rfl (hnew _) (by simp[cJ];omega) (by simp;omega) ab ?_
  rw[V8 hp,hnew2]
  refine an.of ?_
  (try simp only[go_sem,h10,hset,hw1,hw2,hw3]))
 |(
  refine aa.here 11 46 9 rfl ?_
  refine aa.p4 [[],[],[],[1,2],[0,1,2,3],[],[],[5,6],[0,1,2,3,4,5,6,7]] [.mu own.length 6 0 (l.length+1) (l.length+1+m2),i64 (p:Int),i64 1,i64 ((p+1:Nat):Int),.mu own.length 6 (p+1) (l.length-p) (l.length+m2-p),.mu id 6 0 l.length (l.length+m),i64 (p:Int),.mu id 6 p (l.length-p) (l.length+m-p),i64 ((l.length-p:Nat):Int)] [8] (fun k=>[own++[some (lj l x p m2)],own++[some (kN l x p m2)]].getD k []) af af rfl rfl rfl ?_ ?_ ?_
  ·intro i o ho hi s hg how htk hrs hr
   rcases i with _|i
   ·simp only[List.getElem?_toArray,List.getElem?_cons_zero,List.getElem?_cons_succ,Option.some.injEq] at ho;subst ho
    have e9:=(hr 9 ay).trans (rfl:_=(.mu own.length 6 0 (l.length+1) (l.length+1+m2):AV))
    refine cj.list ?_
    simp only[go_sem,e9]
    (done)
   rcases i with _|i
   ·simp only[List.getElem?_toArray,List.getElem?_cons_zero,List.getElem?_cons_succ,Option.some.injEq] at ho;subst ho
    have e1:=(hr 1 ay).trans (rfl:_=(i64 (p:Int):AV))
    refine cj.list ?_
    simp only[go_sem,e1]
    (done)
   rcases i with _|i
   ·simp only[List.getElem?_toArray,List.getElem?_cons_zero,List.getElem?_cons_succ,Option.some.injEq] at ho;subst ho
    have e7:=(hr 7 ay).trans (rfl:_=(i64 1:AV))
    refine cj.list ?_
    simp only[go_sem,e7]
    (done)
   rcases i with _|i
   ·simp only[List.getElem?_toArray,List.getElem?_cons_zero,List.getElem?_cons_succ,Option.some.injEq] at ho;subst ho
    have e47:=(hr 47 ay).trans (rfl:_=(i64 (p:Int):AV))
    have e48:=(hr 48 ay).trans (rfl:_=(i64 1:AV))
    refine cj.list ?_
    simp only[go_sem,e47,e48,hw2]
   rcases i with _|i
   ·simp only[List.getElem?_toArray,List.getElem?_cons_zero,List.getElem?_cons_succ,Option.some.injEq] at ho;subst ho
    have e46:=(hr 46 ay).trans (rfl:_=(.mu own.length 6 0 (l.length+1) (l.length+1+m2):AV))
    have e49:=(hr 49 ay).trans (rfl:_=(i64 ((p+1:Nat):Int):AV))
    refine cj.call fun Q hQ=>?_
    refine an.j5 (e:=63) (l:=p+1) (k:=6) (off:=0) (len:=l.length+1) (cap:=l.length+1+m2) af af e46 e49 ab ab ab ?_
    rw[Nat.zero_add,show l.length+1-(p+1)=l.length-p by omega,show l.length+1+m2-(p+1)=l.length+m2-p by omega]
    exact hQ
   rcases i with _|i
   ·simp only[List.getElem?_toArray,List.getElem?_cons_zero,List.getElem?_cons_succ,Option.some.injEq] at ho;subst ho
    have e0:=(hr 0 ay).trans (rfl:_=(.mu id 6 0 l.length (l.length+m):AV))
    refine cj.list ?_
    simp only[go_sem,e0]
    (done)
   rcases i with _|i
   ·simp only[List.getElem?_toArray,List.getElem?_cons_zero,List.getElem?_cons_succ,Option.some.injEq] at ho;subst ho
    have e1:=(hr 1 ay).trans (rfl:_=(i64 (p:Int):AV))
    refine cj.list ?_
    simp only[go_sem,e1]
    (done)
   rcases i with _|i
   ·simp only[List.getElem?_toArray,List.getElem?_cons_zero,List.getElem?_cons_succ,Option.some.injEq] at ho;subst ho
    have e51:=(hr 51 ay).trans (rfl:_=(.mu id 6 0 l.length (l.length+m):AV))
    have e52:=(hr 52 ay).trans (rfl:_=(i64 (p:Int):AV))
    refine cj.call fun Q hQ=>?_
    refine an.j5 (e:=63) (l:=p) (k:=6) (off:=0) (len:=l.length) (cap:=l.length+m) af af e51 e52 ab ab ab ?_
    rw[Nat.zero_add,show l.length-p=l.length-p by omega,show l.length+m-p=l.length+m-p by omega]
    exact hQ
   rcases i with _|i
   ·exact absurd ay hi
   ·exact absurd ho aD
  ·intro k i o hk ho s hg how htk hrs hup hpp hr
   rcases k with _|k
   ·obtain rfl:=Option.some.inj hk
    simp only[List.getElem?_toArray,List.getElem?_cons_zero,List.getElem?_cons_succ,Option.some.injEq] at ho;subst ho
    have e50:=(hr 50 ay).trans (rfl:_=(.mu own.length 6 (p+1) (l.length-p) (l.length+m2-p):AV))
    have e53:=(hr 53 ay).trans (rfl:_=(.mu id 6 p (l.length-p) (l.length+m-p):AV))
    clear hr
    obtain⟨tm,ow0,tk0,gl0,rsv0,up0⟩:=s
    simp only[] at hg how htk hrs hup hpp;subst hg;subst how;subst htk;subst hrs;subst hup
    refine cj.call fun Q hQ=>?_
    refine an.CY (l.length-p) (es:=lj l x p m2) (es2:=(l.map br++spare 6 m)) nh (by exact e50) (by exact e53) (hnew _) (hold _) (Nat.min_self _) (by rw[Es hp];omega) (by rw[pQ];omega) ab ab (by rw[rX hp];exact CO l p) ?_
    rw[Vr hp]
    simp only[List.getD_cons_zero,hnew2]
    exact hQ
   ·exact absurd hk aD
  simp only[go_sem,Go.Abs.iz,Go.Abs.dstsOf,List.map_cons,List.map_nil])
 |(
  refine aa.here 13 56 6 rfl ?_
  refine aa.bA ?_
  refine an.at 6 4 rfl ?_
  simp only[go_sem,h10,hset,hw1,hw2,hw3]
  (repeat(refine⟨⟨_,rfl⟩,?_⟩))
  refine an.SD (e:=63) (h':=l.length+1) (k:=6) af af rfl rfl (by simp_all<;>omega) (by simp_all<;>omega) ?_
  refine an.of ?_
  (try simp only[go_sem,h10,hset,hw1,hw2,hw3]))
 |(
  refine aa.here 14 61 8 rfl ?_
  refine aa.bA ?_
  refine an.at 8 5 rfl ?_
  simp only[go_sem,h10,hset,hw1,hw2,hw3]
  (repeat(refine⟨⟨_,rfl⟩,?_⟩))
  refine an.j5 (e:=63) (l:=p+1) (k:=6) af af rfl rfl ab ab ab ?_
  refine an.Vq (e:=63) (k:=6) (t:=56) (tR:=4) Tk af af ay rfl rfl ho aD ab (by rw[pQ];omega) ?_
  refine an.of ?_
  (try simp only[go_sem,h10,hset,hw1,hw2,hw3]))
 |(
  refine aa.here 15 69 9 rfl ?_
  have hm1:1≤m:=by omega
  have hpl:p<l.length:=by omega
  refine aa.p4 [[],[],[],[1,2],[0,1,2,3],[],[],[5,6],[0,1,2,3,4,5,6,7]] [.mu id 6 0 (l.length+1) (l.length+m),i64 (p:Int),i64 1,i64 ((p+1:Nat):Int),.mu id 6 (p+1) (l.length-p) (l.length+m-(p+1)),.mu id 6 0 (l.length+1) (l.length+m),i64 (p:Int),.mu id 6 p (l.length+1-p) (l.length+m-p),i64 ((l.length-p:Nat):Int)] [8] (fun k=>[own,own.set id (some (mc l p m))].getD k []) af af rfl rfl rfl ?_ ?_ ?_
  ·intro i o ho hi s hg how htk hrs hr
   rcases i with _|i
   ·simp only[List.getElem?_toArray,List.getElem?_cons_zero,List.getElem?_cons_succ,Option.some.injEq] at ho;subst ho
    have e0:=(hr 0 ay).trans (rfl:_=(.mu id 6 0 (l.length+1) (l.length+m):AV))
    refine cj.list ?_
    simp only[go_sem,e0]
    (done)
   rcases i with _|i
   ·simp only[List.getElem?_toArray,List.getElem?_cons_zero,List.getElem?_cons_succ,Option.some.injEq] at ho;subst ho
    have e1:=(hr 1 ay).trans (rfl:_=(i64 (p:Int):AV))
    refine cj.list ?_
    simp only[go_sem,e1]
    (done)
   rcases i with _|i
   ·simp only[List.getElem?_toArray,List.getElem?_cons_zero,List.getElem?_cons_succ,Option.some.injEq] at ho;subst ho
    have e7:=(hr 7 ay).trans (rfl:_=(i64 1:AV))
    refine cj.list ?_
    simp only[go_sem,e7]
    (done)
   rcases i with _|i
   ·simp only[List.getElem?_toArray,List.getElem?_cons_zero,List.getElem?_cons_succ,Option.some.injEq] at ho;subst ho
    have e70:=(hr 70 ay).trans (rfl:_=(i64 (p:Int):AV))
    have e71:=(hr 71 ay).trans (rfl:_=(i64 1:AV))
    refine cj.list ?_
    simp only[go_sem,e70,e71,hw2]
   rcases i with _|i
   ·simp only[List.getElem?_toArray,List.getElem?_cons_zero,List.getElem?_cons_succ,Option.some.injEq] at ho;subst ho
    have e69:=(hr 69 ay).trans (rfl:_=(.mu id 6 0 (l.length+1) (l.length+m):AV))
    have e72:=(hr 72 ay).trans (rfl:_=(i64 ((p+1:Nat):Int):AV))
    refine cj.call fun Q hQ=>?_
    refine an.j5 (e:=63) (l:=p+1) (k:=6) (off:=0) (len:=l.length+1) (cap:=l.length+m) af af e69 e72 ab ab ab ?_
    rw[Nat.zero_add,show l.length+1-(p+1)=l.length-p by omega,show l.length+m-(p+1)=l.length+m-(p+1) by omega]
    exact hQ
   rcases i with _|i
   ·simp only[List.getElem?_toArray,List.getElem?_cons_zero,List.getElem?_cons_succ,Option.some.injEq] at ho;subst ho
    have e0:=(hr 0 ay).trans (rfl:_=(.mu id 6 0 (l.length+1) (l.length+m):AV))
    refine cj.list ?_
    simp only[go_sem,e0]
    (done)
   rcases i with _|i
   ·simp only[List.getElem?_toArray,List.getElem?_cons_zero,List.getElem?_cons_succ,Option.some.injEq] at ho;subst ho
    have e1:=(hr 1 ay).trans (rfl:_=(i64 (p:Int):AV))
    refine cj.list ?_
    simp only[go_sem,e1]
    (done)
   rcases i with _|i
   ·simp only[List.getElem?_toArray,List.getElem?_cons_zero,List.getElem?_cons_succ,Option.some.injEq] at ho;subst ho
    have e74:=(hr 74 ay).trans (rfl:_=(.mu id 6 0 (l.length+1) (l.length+m):AV))
    have e75:=(hr 75 ay).trans (rfl:_=(i64 (p:Int):AV))
    refine cj.call fun Q hQ=>?_
    refine an.j5 (e:=63) (l:=p) (k:=6) (off:=0) (len:=l.length+1) (cap:=l.length+m) af af e74 e75 ab ab ab ?_
    rw[Nat.zero_add,show l.length+1-p=l.length+1-p by omega,show l.length+m-p=l.length+m-p by omega]
    exact hQ
   rcases i with _|i
   ·exact absurd ay hi
   ·exact absurd ho aD
  ·intro k i o hk ho s hg how htk hrs hup hpp hr
   rcases k with _|k
   ·obtain rfl:=Option.some.inj hk
    simp only[List.getElem?_toArray,List.getElem?_cons_zero,List.getElem?_cons_succ,Option.some.injEq] at ho;subst ho
    have e73:=(hr 73 ay).trans (rfl:_=(.mu id 6 (p+1) (l.length-p) (l.length+m-(p+1)):AV))
    have e76:=(hr 76 ay).trans (rfl:_=(.mu id 6 p (l.length+1-p) (l.length+m-p):AV))
    clear hr
    obtain⟨tm,ow0,tk0,gl0,rsv0,up0⟩:=s
    simp only[] at hg how htk hrs hup hpp;subst hg;subst how;subst htk;subst hrs;subst hup
    refine cj.call fun Q hQ=>?_
    refine an.CY (l.length-p) (es:=(l.map br++spare 6 m)) (es2:=(l.map br++spare 6 m)) nh (by exact e73) (by exact e76) ho ho (Nat.min_eq_right ab) (by rw[pQ];omega) (by rw[pQ];omega) ab ab (by rw[rX hp];exact CO l p) ?_
    rw[OI hp hm1]
    exact hQ
   ·exact absurd hk aD
  simp only[go_sem,Go.Abs.iz,Go.Abs.dstsOf,List.map_cons,List.map_nil])
 |(
  refine aa.here 16 78 5 rfl ?_
  have hm1:1≤m:=by omega
  refine aa.bA ?_
  refine an.at 5 2 rfl ?_
  simp only[go_sem,h10,hset,hw1,hw2,hw3]
  (repeat(refine⟨⟨_,rfl⟩,?_⟩))
  refine an.j5 (e:=63) (l:=p) (k:=6) af af rfl rfl ab ab ab ?_
  refine an.at 2 1 rfl ?_
  simp only[go_sem,h10,hset,hw1,hw2,hw3]
  (repeat(refine⟨⟨_,rfl⟩,?_⟩))
  refine an.Az (xs:=[br x]) nh rfl rfl (hset _) (by rw[SP hp hm1];omega) (by simp;omega) ab ?_
  rw[Nk hp hm1,List.set_set]
  refine an.of ?_
  (try simp only[go_sem,h10,hset,hw1,hw2,hw3]))
 |(refine aa.region ?_;simp only[go_sem,h10,hset,hw1,hw2,hw3])
 |(refine hK _ ?_;clear hK K)
 |refine aa.cond rfl (fun c=>?_) (fun c=>?_)<;>first|exact Bool.noConfusion c|(try simp only[dD] at c)
 |refine aa.skip ?_
 |((with_reducible refine And.intro ?_ ?_);(focus((simp;done)));(try simp only[hb,go_sem,h10,hset,hw1,hw2,hw3]))
 |(
  refine aa.ret ?_
  (try simp only[gr,gv])
  exact hB0 _ _ _ _ rfl aD)
 |(
  refine aa.ret ?_
  (try simp only[gr,gv])
  exact hB0 _ _ _ (m-1) (by rw[show l.length+1+(m-1)=l.length+m by omega];rfl) (hset _)))
theorem LP{l:List Lm}{x y:Lm}{m:Nat}(hr:cd l=true)(hy:l[m]?=some y)(h:bH y x<0):∀(k:Nat) (z:Lm),k<m+1→l[k]?=some z→bH z x<0:=by
 intro k z hk hz
 rcases Nat.lt_or_ge k m with h1|h1
 ·exact sS (uA hr m k z y h1 hz hy) h
 ·obtain rfl:k=m:=by omega
  rw[hy] at hz;cases hz;exact h
theorem SA{l:List Lm}{x y:Lm}{m:Nat}(hr:cd l=true)(hy:l[m]?=some y)(h:¬bH y x<0):∀(k:Nat) (z:Lm),m≤k→l[k]?=some z→¬bH z x<0:=by
 intro k z hk hz h2
 rcases Nat.lt_or_ge m k with h1|h1
 ·exact h (sS (uA hr k m y z h1 hy hz) h2)
 ·obtain rfl:k=m:=by omega
  rw[hy] at hz;cases hz;exact h h2
theorem HN(l:List Lm)(x:Lm)(hr:cd l=true):ai E 147 [bT l,br x,.fn 148 []] (fun r t=>r= .aC [i64 (bn l x),bl (eH l x)]∧t=[]):=by
 have hl:l.length≤32:=(j7.1 hr).1
 refine ai.aw (n:=49) (rs:=[.tmp 6,.tmp 7]) Tryz.func147 rfl Tryz.ntmps147 rfl ?_
 repeat'(first
 |refine aa.aj fun K hK=>?_
 |(
  refine aa.here 4 18 7 rfl ?_
  have hh:=oY (i:=i) (j:=j) ab ab
  refine aa.region ?_;simp only[go_sem,hh])
 |(
  refine aa.here 5 24 8 rfl ?_
  refine aa.bf [0,1,2,3,4,5,6,7] [] af af rfl ?_;simp only[go_sem,Int.toNat_natCast])
 |(
  refine aa.here 8 35 16 rfl ?_
  obtain rfl:i=j:=by omega
  have gp:=KU (x:=x) g2 g3 (fun y hy=>g4 i y (Nat.le_refl _) hy)
  refine aa.bf [0,1,2,3,4,5,6,7,8,9,10,11,12,13,14,15] [] af af rfl ?_;simp only[go_sem])
 |(refine aa.region ?_;simp only[go_sem])
 |(refine hK _ ?_;clear hK K)
 |refine aa.block ?_
 |refine aa.cond rfl (fun c=>?_) (fun c=>?_)<;>(try simp only[dD] at c)
 |refine aa.skip ?_
 |(refine aa.exit ?_;simp only[go_sem])
 |(refine ah.one (Cu _ _) af rfl ?_;simp only[go_sem])
 |(refine aL.split (fun h=>?_) (fun h=>?_)<;>simp only[h,go_sem]<;>(try simp only[dD] at h))
 |((first|refine aM.nth ?_ (fun b hb=>?_)|with_reducible refine And.intro ?_ ?_);(focus(first|omega|(simp;done)));(try simp only[hb,go_sem]))
 |(
  refine aa.here 3 15 3 rfl ?_
  refine aa.cC (ι:=Nat×Nat) [11,15,16,17,18,19,20,21,22,23,24,25,26,27,28,29,30,31,32,33,34] (fun⟨i,j⟩=>[(9,i64 i),(10,i64 j)]) (fun⟨i,j⟩=>i≤j∧j≤l.length∧(∀(k:Nat) (y:Lm),k<i→l[k]?=some y→bH y x<0)∧(∀(k:Nat) (y:Lm),j≤k→l[k]?=some y→¬bH y x<0)) (fun⟨i,j⟩=>j-i) ((0,l.length)) ?_ ?_ ?_
  ·(try simp only[go_sem]);(repeat'(exact .inr (aR rfl)));done
  ·exact⟨by omega,by omega,fun k y h=>by omega,fun k y h h2=>by have:=bM h2;omega⟩
  rintro⟨i,j⟩ ⟨g1,g2,g3,g4⟩
  simp only[go_sem])
 |(
  refine⟨((i+j)/2+1,j),?_,?_,?_⟩
  ·(try simp only[go_sem]);(try rw[av ab ab]);(repeat'(first|refine And.intro ?_ ?_|exact .inr rfl|exact .inr (aR rfl)));done
  ·(exact⟨by show(i+j)/2+1≤j;omega,g2,LP hr hb ae,g4⟩)
  ·(show j-((i+j)/2+1)<j-i;omega))
 |(
  refine⟨(i,(i+j)/2),?_,?_,?_⟩
  ·(try simp only[go_sem]);(try rw[av ab ab]);(repeat'(exact .inr (aR rfl)));done
  ·(exact⟨by show i≤(i+j)/2;omega,by show(i+j)/2≤l.length;omega,g3,SA hr hb ae⟩)
  ·(show(i+j)/2-i<j-i;omega))
 |(
  refine aa.ret ?_
  refine aB.is ?_;simp only[go_sem,aE,aI,aH,aG,aJ,aF]<;>((try simp only[gp,true_and]);(first|(rw[ml (show l[bn l x]?=some b by rw[gp];exact hb)];done)|(rw[u5 (x:=x) ab];done))))
 |refine aa.fin ae ?_)
theorem o8(l:List Lm):∀e∈l.map br,∀x∈e.leaves,x.dW=some x:=by
 intro e he x hx
 obtain⟨o,_,rfl⟩:=List.mem_map.1 he
 simp only[AV.leaves,List.mem_cons,List.not_mem_nil,or_false] at hx
 rcases hx with rfl|rfl|rfl|rfl|rfl|rfl<;>rfl
theorem OR(l:List Lm):∀e∈l.map br,e.leaves.length=6∧∀y∈e.leaves,∃z,y= .v z:=by
 intro e he
 obtain⟨o,_,rfl⟩:=List.mem_map.1 he
 refine⟨rfl,fun x hx=>?_⟩
 simp only[AV.leaves,List.mem_cons,List.not_mem_nil,or_false] at hx
 rcases hx with rfl|rfl|rfl|rfl|rfl|rfl<;>exact⟨_,rfl⟩
theorem NV{l:List Lm}{k m:Nat}{y:Lm}(h:l[k]?=some y):(l.map br++spare 6 m)[k]?=some (br y):=by
 rw[List.getElem?_append_left (by rw[List.length_map];exact bM h),List.getElem?_map,h];rfl
theorem O7{l:List Lm}{k m:Nat}{x:Lm}(h:k<l.length):(l.map br++spare 6 m).set k (br x)=(l.set k x).map br++spare 6 m:=by
 rw[List.set_append_left _ _ (by simpa using h),List.map_set]
theorem Nl(l:List Lm)(x:Lm)(hl:l.length≤1000000):ai E 77 [bT l,br x] (fun r t=>r= .aC [bT (df l x).1,i64 (df l x).2]∧t=[]):=by
 refine ai.aw (n:=41) (rs:=[.tmp 4,.tmp 5]) Tryz.func77 rfl Tryz.ntmps77 rfl ?_
 repeat'(first
 |refine aa.aj fun K hK=>?_
 |(
  refine aa.here 3 19 3 rfl ?_
  refine aa.mb 6 1 6 l.length (l.length+m) (l.map br) (spare 6 m) rfl rfl aD (o8 _) ?_
  simp only[go_sem]
  refine aa.region ?_;simp only[go_sem])
 |(
  refine aa.here 6 27 5 rfl ?_
  have hmr:eC x=true:=by simp_all
  have hhs:eH l x=true:=by simp_all
  have f1:=NV (m:=m) (List.getElem?_eq_getElem (pO hhs))
  refine aa.region ?_;simp only[go_sem,f1,Int.toNat_natCast]
  refine⟨(by have:=pO hhs;omega),?_⟩)
 |(
  refine aa.here 7 31 3 rfl ?_
  rw[O7 (pO hhs)]
  refine aa.mb 6 1 6 l.length (l.length+m) ((l.set (bn l x) x).map br) (spare 6 m) rfl rfl aD (o8 _) ?_
  simp only[go_sem]
  refine aa.region ?_;simp only[go_sem])
 |(
  refine aa.here 9 35 3 rfl ?_
  refine aa.mb 6 1 6 l.length (l.length+m) (l.map br) (spare 6 m) rfl rfl aD (o8 _) ?_
  simp only[go_sem]
  refine aa.region ?_;simp only[go_sem])
 |(
  refine aa.here 10 36 7 rfl ?_
  have hr:cd l=true:=by simp_all
  have h32:l.length≤32:=(j7.1 hr).1
  refine aa.bA ?_
  refine an.at 7 4 rfl ?_
  simp only[go_sem]
  (repeat(refine⟨⟨_,rfl⟩,?_⟩))
  refine Rt (l:=l) (p:=bn l x) (m:=m) (id:=1) (x:=x) rfl rfl rfl rfl (nz l x).1 ab ?_
  intro own' id' m' ho'
  refine an.of ?_
  (try simp only[go_sem]))
 |(refine aa.region ?_;simp only[go_sem])
 |(refine hK _ ?_;clear hK K)
 |refine aa.cond rfl (fun c=>?_) (fun c=>?_)<;>first|exact Bool.noConfusion c|(try simp only[dD] at c)
 |refine aa.skip ?_
 |(refine ah.take (wg l hl) af rfl (.cons (.one (.clean rfl)) .nil) ?_;rintro r t ⟨rfl,rfl⟩;refine⟨0,6,_,rfl,by simp,OR _,fun m=>?_⟩;simp only[go_sem,List.length_map])
 |(refine ah.one (rm l ab) af rfl ?_;simp only[go_sem])
 |(refine ah.one (uZ x) af rfl ?_;simp only[go_sem])
 |(have hr:cd l=true:=ae;refine ah.sn (.cons (.one (.jy rfl aD (o8 _))) (.cons (.one (.clean rfl)) (.cons (.fn .nil) .nil))) (HN l x hr) af rfl (by(simp[kr,kP,lJ];done)) ?_;simp only[go_sem])
 |(refine aL.split (fun h=>?_) (fun h=>?_)<;>simp only[h,go_sem]<;>(try simp only[dD] at h))
 |((with_reducible refine And.intro ?_ ?_);(focus((simp;done)));(try simp only[hb,go_sem]))
 |(
  unfold kN at ho'
  refine aa.mb 4 id' 6 (l.length+1) (l.length+1+m') ((l.take (bn l x)++x::l.drop (bn l x)).map br) (spare 6 m') rfl ho' (by have:=(nz l x).1;simp;omega) (o8 _) ?_
  simp only[go_sem]
  refine aa.ret ?_
  refine aB.is ?_;simp only[go_sem,aE,aI,aH,aG,aJ,aF]<;>(((rw[tG (by simp_all) (by simp_all) (by simp_all) ab];simp;done))))
 |(
  refine aa.ret ?_
  refine aB.is ?_;simp only[go_sem,aE,aI,aH,aG,aJ,aF]<;>((first|(rw[qX (fun e=>by simp_all)];simp;done)|(rw[sV (by simp_all) (by simp_all) (by simp_all)];simp;done)|(rw[v7 (by simp_all) (by simp_all) (by simp_all) ab];simp;done)))))
theorem BK(l:List Od)(m:Nat):(l.map a8++spare 8 m).length=l.length+m:=by simp[cJ]
theorem erase_eq{l:List Od}{p:Nat}(hp:p<l.length):l.eraseIdx p=l.take p++l.drop (p+1):=List.eraseIdx_eq_take_drop_succ ..
theorem AN{l:List Od}{p:Nat}(hp:p<l.length)(m:Nat):(l.map a8++spare 8 m).take p++(((l.map a8++spare 8 m).drop (p+1)).take (l.length-(p+1))++(l.map a8++spare 8 m).drop (p+(l.length-(p+1))))=(l.eraseIdx p).map a8++(l.map a8++spare 8 m).drop (l.length-1):=by
 rw[show p+(l.length-(p+1))=l.length-1 by omega,←List.append_assoc]
 congr 1
 rw[List.take_append_of_le_length (by simp;omega),List.drop_append_of_le_length (by simp;omega),List.take_left' aD,erase_eq hp,List.map_append,List.map_take,List.map_drop]
theorem Yw{l:List Od}{p:Nat}(hp:p<l.length)(m:Nat)(h:l.length-(p+1)=0):(l.map a8++spare 8 m).take p++(((l.map a8++spare 8 m).drop 0).take (l.length-(p+1))++(l.map a8++spare 8 m).drop (p+(l.length-(p+1))))=(l.eraseIdx p).map a8++(l.map a8++spare 8 m).drop (l.length-1):=by
 rw[←AN hp m,h];simp
theorem FE{l:List Od}{p:Nat}(hp:p<l.length)(m:Nat):∀e∈((l.map a8++spare 8 m).drop (p+1)).take (l.length-(p+1)),∀x∈e.leaves,x≠.any:=by
 intro e he x hx
 rw[List.drop_append_of_le_length (by simp;omega),List.take_left' aD] at he
 obtain⟨o,_,rfl⟩:=List.mem_map.1 (List.mem_of_mem_drop he)
 simp only[AV.leaves,List.mem_cons,List.not_mem_nil,or_false] at hx
 rcases hx with rfl|rfl|rfl|rfl|rfl|rfl|rfl|rfl<;>simp
theorem OD{l:List Od}{p:Nat}(hp:p<l.length)(m:Nat):spare 8 ((l.map a8++spare 8 m).drop (l.length-1)).length=spare 8 (m+1):=by
 congr 1;rw[List.length_drop,BK];omega
theorem HD{l:List Od}{p id cap:Nat}(hp:p<l.length){x:AV}(h:x= .mu id 8 (l.length-1) (l.length-(l.length-1)) cap):x= .mu id 8 ((l.eraseIdx p).map a8).length (0+1) cap:=by
 rw[h];congr 1
 ·rw[List.length_map,List.length_eraseIdx_of_lt hp]
 ·omega
set_option maxRecDepth 100000 in
theorem MR{ops:Array Oper}{l0:List Oper}{Q:Exit→St→Prop}{tmps up:List AV}{gl:Nat→Option (List AV)}{own:List (Option (List AV))}{tk:List Nat}{dst:Option Tmp}{x0 x1 x2:Operand}{tys:Array TypeId}{ty:TypeId}{pos:String}{after:Array Edge}{id p m:Nat}{l:List Od}
 (hx0:St.ev ⟨tmps,own,tk,gl,none,up⟩ x0= .mu id 8 0 l.length (l.length+m)) (hx1:St.ev ⟨tmps,own,tk,gl,none,up⟩ x1=i64 (p:Int)) (hx2:St.ev ⟨tmps,own,tk,gl,none,up⟩ x2=i64 ((p+1:Nat):Int)) (ho:own[id]?=some (some (l.map a8++spare 8 m))) (hp:p<l.length) (hl:l.length≤1000000)
 (h:an E ops l0 Q (St.put ⟨tmps,own.set id (some ((l.eraseIdx p).map a8++spare 8 (m+1))),tk,gl,none,up⟩ dst (.mu id 8 0 (l.length-1) (l.length+m)))):
 an E ops (⟨dst,.call ⟨.value (.func 83),#[x0,x1,x2],tys⟩,ty,pos,after,none⟩::l0) Q ⟨tmps,own,tk,gl,none,up⟩:=by
 refine an.call (caps:=[]) (rs:=[.tmp 6]) Tryz.func83 rfl Tryz.ntmps83 rfl af rfl rfl ?_
 show aa E _ _ ⟨([St.ev _ x0,St.ev _ x1,St.ev _ x2]++[])++List.replicate (33-3) (.v undef),own,tk,gl,none,tmps++up⟩
 rw[hx0,hx1,hx2]
 have hB0:∀(tm:List AV),tm[6]?=some (.mu id 8 0 (l.length-1) (l.length+m))→bR E.P [.tmp 6] ⟨tmps,own,tk,gl,none,up⟩ (fun s z=>an E ops l0 Q (s.put dst z)) .ret ⟨tm,own.set id (some ((l.eraseIdx p).map a8++spare 8 (m+1))),tk,gl,none,tmps++up⟩:=by
  intro tm hu
  refine⟨rfl,?_⟩
  have gu:∀ow,St.ev ⟨tm,ow,tk,gl,none,tmps++up⟩ (.tmp 6)= .mu id 8 0 (l.length-1) (l.length+m):=fun ow=>by simp[St.ev,List.getD_eq_getElem?_getD,hu]
  show an E ops l0 Q (St.put _ dst (gW [St.ev _ (.tmp 6)]))
  rw[gu]
  exact h
 generalize bR E.P [.tmp 6] ⟨tmps,own,tk,gl,none,up⟩ (fun s z=>an E ops l0 Q (s.put dst z))=Q' at hB0 ⊢
 generalize tmps++up=up' at hB0 ⊢
 clear h hx0 hx1 hx2
 have hset:∀x,(own.set id x)[id]?=some x:=fun x=>List.getElem?_set_self (bN ho)
 have hrl:=BK l m
 have hnp:decide ((p:Int)=((p+1:Nat):Int))=false:=decide_eq_false ab
 have hE:=AN hp m
 repeat'(first
 |refine aa.aj fun K hK=>?_
 |(
  refine aa.here 1 8 6 rfl ?_
  refine aa.bA ?_
  refine an.at 6 5 rfl ?_
  simp only[go_sem,hnp,hset]
  (repeat(refine⟨⟨_,rfl⟩,?_⟩))
  refine an.NL (e:=65) (l':=p) (h':=p+1) (m':=l.length) (k:=8) af af bz bz bz bz ab ab ab ?_
  refine an.of ?_
  (try simp only[go_sem,hnp,hset]))
 |(
  refine aa.here 5 20 8 rfl ?_
  rcases Nat.lt_or_ge (p+1) (l.length+m) with hlt|hlt
  refine aa.p4 [[],[],[0,1],[],[],[3,4],[0,1,2,3,4,5],[0,1,2,3,4,5,6]] [.mu id 8 0 l.length (l.length+m),i64 (p:Int),.mu id 8 0 p (l.length+m),.mu id 8 0 l.length (l.length+m),i64 ((p+1:Nat):Int),.mu id 8 (p+1) (l.length-(p+1)) (l.length+m-(p+1)),.mu id 8 0 (l.length-1) (l.length+m),.mu id 8 0 (l.length-1) (l.length+m)] [6] (fun k=>[own,own.set id (some ((l.eraseIdx p).map a8++((l.map a8++spare 8 m).drop (l.length-1))))].getD k []) af af rfl rfl rfl ?_ ?_ ?_
  ·intro i o ho hi s hg how htk hrs hr
   rcases i with _|i
   ·simp only[List.getElem?_toArray,List.getElem?_cons_zero,List.getElem?_cons_succ,Option.some.injEq] at ho;subst ho
    have e0:=(hr 0 ay).trans (rfl:_=(.mu id 8 0 l.length (l.length+m):AV))
    refine cj.list ?_
    simp only[go_sem,e0]
    (done)
   rcases i with _|i
   ·simp only[List.getElem?_toArray,List.getElem?_cons_zero,List.getElem?_cons_succ,Option.some.injEq] at ho;subst ho
    have e1:=(hr 1 ay).trans (rfl:_=(i64 (p:Int):AV))
    refine cj.list ?_
    simp only[go_sem,e1]
    (done)
   rcases i with _|i
   ·simp only[List.getElem?_toArray,List.getElem?_cons_zero,List.getElem?_cons_succ,Option.some.injEq] at ho;subst ho
    have e20:=(hr 20 ay).trans (rfl:_=(.mu id 8 0 l.length (l.length+m):AV))
    have e21:=(hr 21 ay).trans (rfl:_=(i64 (p:Int):AV))
    refine cj.list ?_
    simp only[go_sem,e20,e21]
    omega
   rcases i with _|i
   ·simp only[List.getElem?_toArray,List.getElem?_cons_zero,List.getElem?_cons_succ,Option.some.injEq] at ho;subst ho
    have e0:=(hr 0 ay).trans (rfl:_=(.mu id 8 0 l.length (l.length+m):AV))
    refine cj.list ?_
    simp only[go_sem,e0]
    (done)
   rcases i with _|i
   ·simp only[List.getElem?_toArray,List.getElem?_cons_zero,List.getElem?_cons_succ,Option.some.injEq] at ho;subst ho
    have e2:=(hr 2 ay).trans (rfl:_=(i64 ((p+1:Nat):Int):AV))
    refine cj.list ?_
    simp only[go_sem,e2]
    (done)
   rcases i with _|i
   ·simp only[List.getElem?_toArray,List.getElem?_cons_zero,List.getElem?_cons_succ,Option.some.injEq] at ho;subst ho
    have e23:=(hr 23 ay).trans (rfl:_=(.mu id 8 0 l.length (l.length+m):AV))
    have e24:=(hr 24 ay).trans (rfl:_=(i64 ((p+1:Nat):Int):AV))
    refine cj.call fun Q hQ=>?_
    refine an.j5 (e:=65) (l:=p+1) (k:=8) (off:=0) (len:=l.length) (cap:=l.length+m) af af e23 e24 ab hlt ab ?_
    rw[Nat.zero_add]
    exact hQ
   rcases i with _|i
   ·exact absurd ay hi
   rcases i with _|i
   ·simp only[List.getElem?_toArray,List.getElem?_cons_zero,List.getElem?_cons_succ,Option.some.injEq] at ho;subst ho
    have e26:=(hr 26 ay).trans (rfl:_=(.mu id 8 0 (l.length-1) (l.length+m):AV))
    refine cj.list ?_
    simp only[go_sem,e26]
    (done)
   ·exact absurd ho aD
  ·intro k i o hk ho s hg how htk hrs hup hpp hr
   rcases k with _|k
   ·obtain rfl:=Option.some.inj hk
    simp only[List.getElem?_toArray,List.getElem?_cons_zero,List.getElem?_cons_succ,Option.some.injEq] at ho;subst ho
    have e22:=(hr 22 ay).trans (rfl:_=(.mu id 8 0 p (l.length+m):AV))
    have e25:=(hr 25 ay).trans (rfl:_=(.mu id 8 (p+1) (l.length-(p+1)) (l.length+m-(p+1)):AV))
    clear hr
    obtain⟨tm,ow0,tk0,gl0,rsv0,up0⟩:=s
    simp only[] at hg how htk hrs hup hpp;subst hg;subst how;subst htk;subst hrs;subst hup
    refine cj.call fun Q hQ=>?_
    have hE2:=hE
    refine an.zR (es:=(l.map a8++spare 8 m)) (i:=p) (o:=(p+1)) (j:=l.length-(p+1)) tw pY (by rw[hrl];exact e22) (by exact e25) ho (by rw[hrl];omega) (by rw[hrl];omega) (by rw[hrl];omega) (FE hp m) ?_
    rw[hE2,show p+(l.length-(p+1))=l.length-1 by omega]
    (try rw[hrl])
    exact hQ
   ·exact absurd hk aD
  simp only[go_sem,Go.Abs.iz,Go.Abs.dstsOf,List.map_cons,List.map_nil]
  rotate_left
  refine aa.p4 [[],[],[0,1],[],[],[3,4],[0,1,2,3,4,5],[0,1,2,3,4,5,6]] [.mu id 8 0 l.length (l.length+m),i64 (p:Int),.mu id 8 0 p (l.length+m),.mu id 8 0 l.length (l.length+m),i64 ((p+1:Nat):Int),.mu id 8 0 (l.length-(p+1)) 0,.mu id 8 0 (l.length-1) (l.length+m),.mu id 8 0 (l.length-1) (l.length+m)] [6] (fun k=>[own,own.set id (some ((l.eraseIdx p).map a8++((l.map a8++spare 8 m).drop (l.length-1))))].getD k []) af af rfl rfl rfl ?_ ?_ ?_
  ·intro i o ho hi s hg how htk hrs hr
   rcases i with _|i
   ·simp only[List.getElem?_toArray,List.getElem?_cons_zero,List.getElem?_cons_succ,Option.some.injEq] at ho;subst ho
    have e0:=(hr 0 ay).trans (rfl:_=(.mu id 8 0 l.length (l.length+m):AV))
    refine cj.list ?_
    simp only[go_sem,e0]
    (done)
   rcases i with _|i
   ·simp only[List.getElem?_toArray,List.getElem?_cons_zero,List.getElem?_cons_succ,Option.some.injEq] at ho;subst ho
    have e1:=(hr 1 ay).trans (rfl:_=(i64 (p:Int):AV))
    refine cj.list ?_
    simp only[go_sem,e1]
    (done)
   rcases i with _|i
   ·simp only[List.getElem?_toArray,List.getElem?_cons_zero,List.getElem?_cons_succ,Option.some.injEq] at ho;subst ho
    have e20:=(hr 20 ay).trans (rfl:_=(.mu id 8 0 l.length (l.length+m):AV))
    have e21:=(hr 21 ay).trans (rfl:_=(i64 (p:Int):AV))
    refine cj.list ?_
    simp only[go_sem,e20,e21]
    omega
   rcases i with _|i
   ·simp only[List.getElem?_toArray,List.getElem?_cons_zero,List.getElem?_cons_succ,Option.some.injEq] at ho;subst ho
    have e0:=(hr 0 ay).trans (rfl:_=(.mu id 8 0 l.length (l.length+m):AV))
    refine cj.list ?_
    simp only[go_sem,e0]
    (done)
   rcases i with _|i
   ·simp only[List.getElem?_toArray,List.getElem?_cons_zero,List.getElem?_cons_succ,Option.some.injEq] at ho;subst ho
    have e2:=(hr 2 ay).trans (rfl:_=(i64 ((p+1:Nat):Int):AV))
    refine cj.list ?_
    simp only[go_sem,e2]
    (done)
   rcases i with _|i
   ·simp only[List.getElem?_toArray,List.getElem?_cons_zero,List.getElem?_cons_succ,Option.some.injEq] at ho;subst ho
    have e23:=(hr 23 ay).trans (rfl:_=(.mu id 8 0 l.length (l.length+m):AV))
    have e24:=(hr 24 ay).trans (rfl:_=(i64 ((p+1:Nat):Int):AV))
    refine cj.call fun Q hQ=>?_
    refine an.Df (e:=65) (k:=8) (off:=0) (cap:=l.length+m) af af (by rw[show l.length+m=l.length by omega] at e23;rw[show l.length+m=l.length by omega];exact e23) (by rw[show l.length+m=p+1 by omega];exact e24) ab ?_
    rw[show l.length-(p+1)=0 by omega] at hQ
    exact hQ
   rcases i with _|i
   ·exact absurd ay hi
   rcases i with _|i
   ·simp only[List.getElem?_toArray,List.getElem?_cons_zero,List.getElem?_cons_succ,Option.some.injEq] at ho;subst ho
    have e26:=(hr 26 ay).trans (rfl:_=(.mu id 8 0 (l.length-1) (l.length+m):AV))
    refine cj.list ?_
    simp only[go_sem,e26]
    (done)
   ·exact absurd ho aD
  ·intro k i o hk ho s hg how htk hrs hup hpp hr
   rcases k with _|k
   ·obtain rfl:=Option.some.inj hk
    simp only[List.getElem?_toArray,List.getElem?_cons_zero,List.getElem?_cons_succ,Option.some.injEq] at ho;subst ho
    have e22:=(hr 22 ay).trans (rfl:_=(.mu id 8 0 p (l.length+m):AV))
    have e25:=(hr 25 ay).trans (rfl:_=(.mu id 8 0 (l.length-(p+1)) 0:AV))
    clear hr
    obtain⟨tm,ow0,tk0,gl0,rsv0,up0⟩:=s
    simp only[] at hg how htk hrs hup hpp;subst hg;subst how;subst htk;subst hrs;subst hup
    refine cj.call fun Q hQ=>?_
    have hE2:=hE
    refine an.zR (es:=(l.map a8++spare 8 m)) (i:=p) (o:=0) (j:=l.length-(p+1)) tw pY (by rw[hrl];exact e22) (by exact e25) ho (by rw[hrl];omega) (by rw[hrl];omega) (by rw[hrl];omega) (by rw[show l.length-(p+1)=0 by omega];intro e he;simp at he) ?_
    rw[Yw hp m ab,show p+(l.length-(p+1))=l.length-1 by omega]
    (try rw[hrl])
    exact hQ
   ·exact absurd hk aD
  simp only[go_sem,Go.Abs.iz,Go.Abs.dstsOf,List.map_cons,List.map_nil])
 |(
  refine aa.here 6 27 6 rfl ?_
  refine aa.bA ?_
  refine an.at 6 4 rfl ?_
  simp only[go_sem,hnp,hset]
  (repeat(refine⟨⟨_,rfl⟩,?_⟩))
  refine an.E3 (e:=65) (l':=l.length-1) (h':=l.length) (k:=8) (off:=0) af af bz bz bz ab ab ab ?_
  simp only[go_sem,hnp,hset]
  refine an.CV (e:=65) (k:=8) (n:=88) (len:=0) (A:=(l.eraseIdx p).map a8) (B:=(l.map a8++spare 8 m).drop (l.length-1)) pY af (HD hp bz) (hset _) (by rw[List.length_drop,hrl];omega) ?_
  rw[OD hp m]
  refine an.of ?_
  (try simp only[go_sem,hnp,hset]))
 |(refine aa.region ?_;simp only[go_sem,hnp,hset])
 |(refine hK _ ?_;clear hK K)
 |refine aa.cond rfl (fun c=>?_) (fun c=>?_)<;>first|exact Bool.noConfusion c|(try simp only[dD] at c)
 |refine aa.skip ?_
 |((with_reducible refine And.intro ?_ ?_);(focus((simp;done)));(try simp only[hb,go_sem,hnp,hset]))
 |(
  refine aa.ret ?_
  (try simp only[gr,gv])
  (try rw[List.set_set])
  exact hB0 _ rfl))
theorem KZ(x:Ex):∀z∈(ar x).leaves,z.dW=some z:=by
 intro z hz
 simp only[AV.leaves,List.mem_cons,List.not_mem_nil,or_false] at hz
 rcases hz with rfl|rfl|rfl|rfl|rfl|rfl|rfl|rfl|rfl|rfl<;>rfl
theorem Rf(o:Od)(x:Ex):ai E 155 [a8 o,.bV [str x.id,str x.ref,str x.ord,str x.acc,str x.sym,i64 x.kind,bl x.az,i64 x.aq,i64 x.aA,i64 x.time]] (fun r t=>r=bl (ic x o)∧t=[]):=by
 refine ai.aw (n:=54) (rs:=[.tmp 3]) Tryz.func155 rfl Tryz.ntmps155 rfl ?_
 repeat'(first
 |refine aa.aj fun K hK=>?_
 |(refine aa.region ?_;simp only[go_sem])
 |(refine hK _ ?_;clear hK K)
 |(refine aL.cc (fun h=>?_) (fun h=>?_)<;>simp only[h,go_sem]<;>(try simp only[dD] at h))
 |(refine aL.split (fun h=>?_) (fun h=>?_)<;>simp only[h,go_sem]<;>(try simp only[dD] at h))
 |(
  refine aa.ret ?_
  refine aB.is ?_;simp only[go_sem,aE,aI,aH,aG,aJ,aF]<;>(simp[ic, *];done)))
theorem TO(l:List Od)(x:Ex)(hl:l.length≤9223372036854775807):ai E 154 [aV l,.fn 155 [.bV [str x.id,str x.ref,str x.ord,str x.acc,str x.sym,i64 x.kind,bl x.az,i64 x.aq,i64 x.aA,i64 x.time]]] (fun r t=>r=i64 (eY (fun o:Od=>ic x o) l)∧t=[]):=by
 refine ai.aw (n:=19) (rs:=[.tmp 4]) Tryz.func154 rfl Tryz.ntmps154 rfl ?_
 repeat'(first
 |refine aa.aj fun K hK=>?_
 |(refine aa.region ?_;simp only[go_sem])
 |(refine hK _ ?_;clear hK K)
 |refine aa.block ?_
 |refine aa.cond rfl (fun c=>?_) (fun c=>?_)<;>(try simp only[dD] at c)
 |refine aa.skip ?_
 |(refine aa.exit ?_;simp only[go_sem])
 |(refine ah.one (Rf _ _) af rfl ?_;simp only[go_sem])
 |((first|refine aM.nth ?_ (fun b hb=>?_)|with_reducible refine And.intro ?_ ?_);(focus(first|omega|(simp;done)));(try simp only[hb,go_sem]))
 |(
  refine aa.here 2 9 1 rfl ?_
  refine aa.cC (ι:=Nat) [4,5,9,10,11,12,13,14,15,16,17,18] (fun(i:Nat)=>[(8,i64 i)]) (fun(i:Nat)=>i≤l.length∧(l.take i).all (fun o:Od=>!(ic x o))=true) (fun(i:Nat)=>l.length-i) (0) ?_ ?_ ?_
  ·(try simp only[go_sem]);(repeat'(first|fail));done
  ·exact⟨by omega,by simp⟩
  rintro i ⟨h1,h2⟩
  simp only[go_sem])
 |(
  refine⟨i+1,?_,?_,?_⟩
  ·(try simp only[go_sem]);(try rw[av ab ab]);(repeat'(exact .inr rfl));done
  ·exact⟨by omega,kR hb h2 (by simp_all)⟩
  ·(try simp only[]);omega)
 |(
  refine aa.ret ?_
  refine aB.is ?_;simp only[go_sem,aE,aI,aH,aG,aJ,aF]<;>(first|(rw[qJ hb (by simp_all) h2];done)|(rw[qy ab h2];done)))
 |refine aa.fin ae ?_)
theorem qn(l:List Od)(x:Ex)(hl:l.length≤9223372036854775807):ai E 82 [aV l,ar x] (fun r t=>r=i64 (eY (fun o:Od=>ic x o) l)∧t=[]):=by
 refine ai.aw (n:=8) (rs:=[.tmp 4]) Tryz.func82 rfl Tryz.ntmps82 rfl ?_
 repeat'(first
 |refine aa.aj fun K hK=>?_
 |(refine aa.region ?_;simp only[go_sem])
 |(refine hK _ ?_;clear hK K)
 |(refine ah.fZ (TO l x hl) af rfl (.cons (.one (.clean rfl)) (.cons (.fn (.cons (.ptr (e:=ar x) rfl (KZ x)) .nil)) .nil)) ?_;simp only[go_sem])
 |(
  refine aa.ret ?_
  refine aB.is ?_;simp only[go_sem,aE,aI,aH,aG,aJ,aF]<;>rfl))
end Go.Proofs.YtajeeghgiilhiaaGreat
end
section
namespace Go.Abs
open Go Go.RowKit
theorem aa.FJ{E:Env}{c:Code}{Q:Exit→St→Prop}{s:St}(id idx j:Nat){jd k n cap:Nat}{rs cs:List AV}(es:List AV)(hne:jd≠id)(ho:s.own[id]?=some (some rs))(he:rs[idx]?=some (.agg cs))(hx:cs[j]?=some (.mu jd k 0 n cap))(ho2:s.own[jd]?=some (some es))(hn:n≤es.length)(hc:∀e∈es.take n,∀x∈e.leaves,x.dW=some x)
 (hw:aa E c Q { s with own:=(s.own.set jd none).set id (some (rs.set idx (.agg (cs.set j (.sl none k (es.take n)))))) }):aa E c Q s:=by
 intro w0 im0 cx a w h0 hG r
 have hlen:(es.take n).length=n:=by rw[List.length_take];omega
 have key:∃c',cx.le c'∧Rel w0 im0 c' { s with own:=s.own.set jd none } a w∧∀v,VR c' (.mu jd k 0 n cap) v→VR c' (.sl none k (es.take n)) v:=by
  cases hb:cx.β[jd]? with
  |none=>exact⟨cx,.refl _,r.ma jd,fun v hv=>by
    rcases hv.c0 with⟨g,hb',_,_⟩|⟨rfl,rfl,rfl⟩
    ·rw[hb] at hb';simp at hb'
    ·rw[List.take_zero];exact .base (.dw k none 0)⟩
  |some p=>
   cases p with
   |none=>exact⟨cx,.refl _,r.ma jd,fun v hv=>by
     rcases hv.c0 with⟨g,hb',_,_⟩|⟨rfl,rfl,rfl⟩
     ·rw[hb] at hb';simp at hb'
     ·rw[List.take_zero];exact .base (.dw k none 0)⟩
   |some p=>
    obtain⟨g,k'⟩:=p
    obtain⟨c',hle,hβ,_,_,r',cv,hl,hm,h1,hvr⟩:=r.sm (n:=n) hb ho2 rfl hc
    refine⟨c',hle,r',fun v hv=>?_⟩
    rcases hv.c0 with⟨g',hb',hcap,rfl⟩|⟨rfl,rfl,rfl⟩
    ·rw[hβ,hb] at hb'
     simp only[Option.some.injEq,Prod.mk.injEq] at hb'
     obtain⟨rfl,rfl⟩:=hb'
     have:=aX.sl (im:=c'.im) k' (es.take n) g 0 cap cv ab hl (fun i e j x he hj=>by rw[Nat.zero_add];exact hm i e j x he hj) h1 hvr
     rw[hlen] at this
     rw[Nat.zero_mul];exact .base this
    ·rw[List.take_zero];exact .base (.dw k none 0)
 obtain⟨c',hle,r',hv⟩:=key
 have hown:(s.own.set jd none)[id]?=some (some rs):=by rw[List.getElem?_set_ne hne];exact ho
 have r2:=r'.yy (y:= .sl none k (es.take n)) hown he hx aD hv
 exact hw w0 im0 c' a w h0 hG r2
section
variable{E:Env}{ops:Array Oper}{anc:List (List Nat)}{cs:List Nat}{ow:Nat→List (Option (List AV))}{vals:List AV}{st:St}
end
end Go.Abs
end
section
namespace Go.Proofs.YtajeeghgiilhiaaGreat
open Go Go.Abs Go.RowKit Go.Bk
theorem BQ{g:Gt}{k:Nat}{x:Ex}{v:Vn}{nb:Bk}{kk:Int}(h:ba g (k:Int)=true)(hx:g.ao[k]?=some v)(hc:bj v.book x=(nb,kk))(hk:kk=2∨kk=4):cr g (k:Int) x=(g,kk,0):=by
 rw[mW h hx,hc,if_pos hk]
theorem Cx{g:Gt}{k:Nat}{x:Ex}{v:Vn}{nb:Bk}{kk:Int}(h:ba g (k:Int)=true)(hx:g.ao[k]?=some v)(hc:bj v.book x=(nb,kk))(hk:¬(kk=2∨kk=4)∧¬(kk=1∨kk=3)):cr g (k:Int) x=(g,0,1):=by
 rw[mW h hx,hc,if_neg hk.1,if_neg hk.2]
abbrev o4(v:Vn):AV:= .agg [aV v.book.ak,cg v.book.al,.sl (some 0) 1 (v.book.ids.map str),i64 v.book.clock,i64 v.book.bad,aV v.ax,i64 v.last,bl v.bB]
theorem Qz{no nt m k:Nat}{l:List Vn}{v:Vn}(h:0<nt):∀es,some ((l.map aS++spare 8 m).set k (o4 v))=some es→∀e∈es,∀z∈e.leaves,z.bO no nt=true:=by
 intro es he e hm z hz
 simp only[Option.some.injEq] at he
 subst he
 rcases List.mem_or_eq_of_mem_set hm with hm|rfl
 ·exact dN (no:=no) (nt:=nt) (m:=m) (l:=l) _ rfl e hm z hz
 ·simp only[AV.leaves,List.mem_cons,List.not_mem_nil,or_false] at hz
  rcases hz with rfl|rfl|rfl|rfl|rfl|rfl|rfl|rfl<;>first|rfl|exact decide_eq_true h
theorem Jj{l:List Od}{x:Ex}(h:eK l x=none):eY (ic x) l= -1:=by
 unfold eK at h;unfold eY;rw[h]
theorem ym{l:List Od}{x:Ex}{p:Nat}(h:eK l x=some p):eY (ic x) l=(p:Int):=by
 unfold eK at h;unfold eY;rw[h]
theorem ti{x:Ex}(h:x.kind=1∨x.kind=4):jB x=true:=by unfold jB;rcases h with h|h<;>rw[h]<;>rfl
theorem B3{g:Gt}{k:Nat}{x:Ex}{v:Vn}{nb:Bk}{kk:Int}(h:ba g (k:Int)=true)(hx:g.ao[k]?=some v)(hc:bj v.book x=(nb,kk))(hk:kk=1∨kk=3)(ho:x.kind=1∨x.kind=4)(hs:eK v.ax x=none):cr g (k:Int) x=(cq g k (js v x),3,0):=by
 rw[mW h hx,hc,if_neg (by simp only;omega),if_pos hk]
 simp only[kW,ti ho,if_true,hs]
theorem OC{l:List Vn}{k m:Nat}{w:Vn}{x:Ex}{a b c:AV}(h:k<l.length):(((((l.map aS++spare 8 m).set k a).set k b).set k c).set k (.agg [aV w.book.ak,cg w.book.al,.sl none 1 (w.book.ids.map str++[str x.id]),i64 w.book.clock,i64 2,aV w.ax,i64 w.last,bl w.bB]))=(l.set k (js w x)).map aS++spare 8 m:=by
 rw[List.set_set,List.set_set,List.set_set,←mf (v:=js w x) h]
 congr 1
 simp[js]
theorem C8{l:List Od}{x:Ex}{p:Nat}(h:(x.kind=1∨x.kind=4)→eK l x=some p):(x.kind=1∨x.kind=4)→eY (ic x) l=(p:Int):=fun q=>ym (h q)
theorem xj{g:Gt}{k:Nat}{x:Ex}{v:Vn}{nb:Bk}{p:Nat}(h:ba g (k:Int)=true)(hx:g.ao[k]?=some v)(hc:bj v.book x=(nb,3))(hs:(x.kind=1∨x.kind=4)→eK v.ax x=some p):cr g (k:Int) x=(cq g k ⟨nb,v.ax,v.last,v.bB⟩,3,0):=by
 rw[mW h hx,hc,if_neg aD,if_pos aD]
 simp only[kW]
 by_cases ho:x.kind=1∨x.kind=4
 ·simp only[ti ho,if_true,hs ho];rfl
 ·have:jB x=false:=by unfold jB;simp only[not_or] at ho;simp[ho]
  simp only[this];rfl
theorem Ap{g:Gt}{k:Nat}{x:Ex}{v:Vn}{nb:Bk}(h:ba g (k:Int)=true)(hx:g.ao[k]?=some v)(hc:bj v.book x=(nb,1))(ho:¬(x.kind=1∨x.kind=4)):cr g (k:Int) x=(cq g k ⟨nb,v.ax,g.now,v.bB⟩,1,0):=by
 rw[mW h hx,hc,if_neg aD,if_pos aD]
 have:jB x=false:=by unfold jB;simp only[not_or] at ho;simp[ho]
 simp only[kW,this];rfl
abbrev lV(v:Vn)(m2:Nat):AV:= .agg [aV v.book.ak,cg v.book.al,.sl none 1 (v.book.ids.map str),i64 v.book.clock,i64 v.book.bad,.mu 6 8 0 v.ax.length (v.ax.length+m2),i64 v.last,bl v.bB]
theorem CJ{no nt m m2 k:Nat}{l:List Vn}{v:Vn}(h2:6<no):∀es,some ((l.map aS++spare 8 m).set k (lV v m2))=some es→∀e∈es,∀z∈e.leaves,z.bO no nt=true:=by
 intro es he e hm z hz
 simp only[Option.some.injEq] at he
 subst he
 rcases List.mem_or_eq_of_mem_set hm with hm|rfl
 ·exact dN (no:=no) (nt:=nt) (m:=m) (l:=l) _ rfl e hm z hz
 ·simp only[AV.leaves,List.mem_cons,List.not_mem_nil,or_false] at hz
  rcases hz with rfl|rfl|rfl|rfl|rfl|rfl|rfl|rfl<;>first|rfl|exact decide_eq_true h2
theorem Cq{no nt m:Nat}{l:List Od}:∀es,some (l.map a8++spare 8 m)=some es→∀e∈es,∀z∈e.leaves,z.bO no nt=true:=mY fun x z hz=>by
 simp only[AV.leaves,List.mem_cons,List.not_mem_nil,or_false] at hz
 rcases hz with rfl|rfl|rfl|rfl|rfl|rfl|rfl|rfl<;>rfl
theorem Cz{l:List Od}{p m:Nat}(h:p<l.length):((l.eraseIdx p).map a8++spare 8 m).take (l.length-1)=(l.eraseIdx p).map a8:=List.take_left' (by rw[List.length_map,List.length_eraseIdx_of_lt h])
theorem IE{l:List Od}{x:Ex}{p:Nat}(h:eK l x=some p):p<l.length:=by
 unfold eK at h
 obtain⟨h1,_⟩:=List.findIdx?_eq_some_iff_findIdx_eq.1 h
 exact h1
theorem Bo{g:Gt}{k:Nat}{x:Ex}{v:Vn}{nb:Bk}{p:Nat}(h:ba g (k:Int)=true)(hx:g.ao[k]?=some v)(hc:bj v.book x=(nb,1))(ho:x.kind=1∨x.kind=4)(hs:eK v.ax x=some p):cr g (k:Int) x=(cq g k ⟨nb,v.ax.eraseIdx p,g.now,v.bB⟩,1,0):=by
 rw[mW h hx,hc,if_neg aD,if_pos aD]
 simp only[kW,ti ho,if_true,hs]
theorem R6{l:List Vn}{k m p:Nat}{w:Vn}{nb:Bk}{now:Int}{a b c d:AV}(h:k<l.length):((((((l.map aS++spare 8 m).set k a).set k b).set k c).set k d).set k (.agg [aV nb.ak,cg nb.al,.sl none 1 (nb.ids.map str),i64 nb.clock,i64 nb.bad,.sl none 8 ((w.ax.eraseIdx p).map a8),i64 now,bl w.bB]))=(l.set k ⟨nb,w.ax.eraseIdx p,now,w.bB⟩).map aS++spare 8 m:=by
 rw[List.set_set,List.set_set,List.set_set,List.set_set,←mf (v:=⟨nb,w.ax.eraseIdx p,now,w.bB⟩) h]
theorem Sy(g:Gt)(n:Int)(x:Ex)(hg:bP g)(ha:ba g n=false):ai E 30 [aO g,i64 n,ar x] (fun r t=>r= .aC [aO g,i64 0,i64 1]∧t=[]):=by
 have hgi:=hg.fit
 refine ai.aw (n:=104) (rs:=[.cell 6 58,.tmp 7,.tmp 8]) Tryz.func30 rfl Tryz.ntmps30 rfl ?_
 repeat'(first
 |refine aa.aj fun K hK=>?_
 |(refine aa.region ?_;simp only[go_sem,ha])
 |(refine hK _ ?_;clear hK K)
 |refine aa.cond rfl (fun c=>?_) (fun c=>?_)<;>first|exact Bool.noConfusion c|(try simp only[dD] at c)
 |(refine ah.one (mO g hg) af rfl ?_;simp only[go_sem,ha])
 |(refine ah.one (ig g n hgi) af rfl ?_;simp only[go_sem,ha])
 |(
  refine aa.ret ?_
  refine aB.is ?_;simp only[go_sem,aE,aI,aH,aG,aJ,aF]<;>(first|fail)))
theorem SC(g:Gt)(k:Nat)(w:Vn)(x:Ex)(hg:bP g)(hx0:g.ao[k]?=some w)(ha:ba g (k:Int)=true)(nb:Bk)(kk:Int)(hcf:bj w.book x=(nb,kk))(hkk:¬kk=1∧¬kk=3):ai E 30 [aO g,i64 (k:Int),ar x] (fun r t=>r= .aC [aO (cr g (k:Int) x).1,i64 (cr g (k:Int) x).2.1,i64 (cr g (k:Int) x).2.2]∧t=[]):=by
 have hgi:=hg.fit
 have hg1:=hg.1
 have hg2:=hg.2.1
 have hkn:=bM hx0
 have hw0:=hg.2.2 w (List.mem_of_getElem? hx0)
 have hil:=hw0.2.2.1
 have hgk:(g.ao.map aS)[k]?=some (aS w):=by rw[List.getElem?_map,hx0];rfl
 refine ai.aw (n:=104) (rs:=[.cell 6 58,.tmp 7,.tmp 8]) Tryz.func30 rfl Tryz.ntmps30 rfl ?_
 repeat'(first
 |refine aa.aj fun K hK=>?_
 |(refine aa.region ?_;simp only[go_sem,ha,hgk])
 |(refine aa.here 5 26 12 rfl ?_;refine aa.bf [0,1,2,3,4,9,5,6,7,8,10,11] [11] af af rfl ?_;simp only[go_sem,ha,hgk])
 |(refine aa.here 15 52 7 rfl ?_;refine aa.bf [0,1,2,3,4,5,6] [] af af rfl ?_;simp only[go_sem,ha,hgk])
 |(refine aa.here 17 60 14 rfl ?_;refine aa.gZ (.take 0 (.take 1 (.take 2 (.take 3 (.take 4 (.take 5 (.take 6 (.take 7 (.take 8 (.take 9 (.take 10 (.take 11 (.take 12 (.take 13 .done)))))))))))))) [[],[],[1],[1,2],[1,2,3],[1,2,3,4],[],[6],[6,7],[1,2,3,4,5,6,7,8],[0,1,2,3,4,5,6,7,8,9],[0,1,2,3,4,5,6,7,8,9,10],[0,1,2,3,4,5,6,7,8,9,10,11],[0,1,2,3,4,5,6,7,8,9,10,11,12]] [] af af ?_;simp only[go_sem,ha,hgk])
 |(refine hK _ ?_;clear hK K)
 |refine aa.block ?_
 |refine aa.cond rfl (fun c=>?_) (fun c=>?_)<;>first|exact Bool.noConfusion c|(try simp only[dD] at c)
 |refine aa.skip ?_
 |(refine ah.one (mO g hg) af rfl ?_;simp only[go_sem,ha,hgk])
 |(refine ah.one (ig g (k:Int) hgi) af rfl ?_;simp only[go_sem,ha,hgk])
 |(refine ah.one (pU w.book x hw0.1 hw0.2.1 hw0.2.2.1) af rfl ?_;simp only[hcf];simp only[go_sem,ha,hgk])
 |(refine ah.one (qn _ _ (by(omega))) af rfl ?_;simp only[go_sem,ha,hgk])
 |(refine aL.cc (fun h=>?_) (fun h=>?_)<;>simp only[h,go_sem,ha,hgk]<;>(try simp only[dD] at h))
 |(
  refine aa.ret ?_
  refine aB.is ?_;simp only[go_sem,aE,aI,aH,aG,aJ,aF]<;>(first|(rw[BQ ha hx0 hcf ab];simp;done)|(rw[Cx ha hx0 hcf ab];simp;done)))
 |(exfalso;omega))
theorem BD(g:Gt)(k:Nat)(w:Vn)(x:Ex)(hg:bP g)(hx0:g.ao[k]?=some w)(ha:ba g (k:Int)=true)(nb:Bk)(kk:Int)(hcf:bj w.book x=(nb,kk))(hkk:kk=1∨kk=3)(hop:x.kind=1∨x.kind=4)(hsn:eK w.ax x=none):ai E 30 [aO g,i64 (k:Int),ar x] (fun r t=>r= .aC [aO (cr g (k:Int) x).1,i64 (cr g (k:Int) x).2.1,i64 (cr g (k:Int) x).2.2]∧t=[]):=by
 have hgi:=hg.fit
 have hg1:=hg.1
 have hg2:=hg.2.1
 have hkn:=bM hx0
 have hw0:=hg.2.2 w (List.mem_of_getElem? hx0)
 have hil:=hw0.2.2.1
 have hix:=Jj hsn
 refine ai.aw (n:=104) (rs:=[.cell 6 58,.tmp 7,.tmp 8]) Tryz.func30 rfl Tryz.ntmps30 rfl ?_
 repeat'(first
 |(
  refine aa.ky hc1 ?_
  first
  |(refine aa.iN [0,1,2,3,4,6] ay rfl rfl ?_;simp only[go_sem,lM,List.length_map];refine aa.weaken ?_ (hc1 m);(try simp only[go_sem]);(repeat'(first|refine And.intro ?_ ?_|trivial|exact .inr (aR rfl)|exact .inr dN));done)
  |(have he:g.ao=[]:=Classical.byContradiction fun hne=>by
     have:=hbb (by simpa using hne)
     simp_all
    refine aa.lf 3 0 8 _ rfl rfl ?_
    simp only[go_sem]
    refine aa.weaken ?_ (hc1 0);(try simp only[go_sem,he,List.length_nil,List.map_nil,lz]);(repeat'(first|refine And.intro ?_ ?_|trivial|exact .inr (aR rfl)));done))
 |refine aa.aj fun K hK=>?_
 |(
  refine aa.here 1 5 5 rfl ?_
  first
  |(have h0:=hc1;clear h0;refine aa.bA ?_;refine an.at 5 2 rfl ?_;simp only[go_sem])
  |((fail_if_success(have h0:=hc1));refine aa.cutAt (ι:=Nat) [5,6,7,8] (fun(m:Nat)=>[]) (fun(m:Nat)=>[some [.agg [eB g.ao,bT g.aT,bl g.kill,i64 g.now,i64 g.pat]],some [ar x],some [.agg [.aQ,.aQ,bl false,i64 0,i64 0]],some [.agg [.mu 5 8 0 g.ao.length (g.ao.length+m),bT g.aT,bl g.kill,i64 g.now,i64 g.pat]],some [.agg [.aQ,.aQ,bl false,i64 0,i64 0]],some (g.ao.map aS++spare 8 m)]) (fun(m:Nat)=>[]) hK (fun m=>?_) (fun hc1=>?_)))
 |(refine Cut.mk ?_;simp only[go_sem])
 |(
  refine aa.here 4 21 5 rfl ?_
  have hxk:((g.ao.map aS++spare 8 m).set k (o4 w))[k]?=some (o4 w):=List.getElem?_set_self (by simp;omega)
  have hxk2:∀z,(((g.ao.map aS++spare 8 m).set k (o4 w)).set k z)[k]?=some z:=fun z=>List.getElem?_set_self (by simp;omega)
  refine aa.region ?_;simp only[go_sem,ha])
 |(
  refine aa.here 5 26 12 rfl ?_
  refine aa.bf [0,1,2,3,4,9,5,6,7,8,10,11] [11] af af rfl ?_;simp only[go_sem,ha,hxk])
 |(
  refine aa.here 15 52 7 rfl ?_
  refine aa.bf [0,1,2,3,4,5,6] [] af af rfl ?_;simp only[go_sem,ha,hxk])
 |(
  refine aa.here 17 60 14 rfl ?_
  refine aa.gZ (.take 0 (.take 1 (.take 2 (.take 3 (.take 4 (.take 5 (.take 6 (.take 7 (.take 8 (.take 9 (.take 10 (.take 11 (.take 12 (.take 13 .done)))))))))))))) [[],[],[1],[1,2],[1,2,3],[1,2,3,4],[],[6],[6,7],[1,2,3,4,5,6,7,8],[0,1,2,3,4,5,6,7,8,9],[0,1,2,3,4,5,6,7,8,9,10],[0,1,2,3,4,5,6,7,8,9,10,11],[0,1,2,3,4,5,6,7,8,9,10,11,12]] [] af af ?_;simp only[go_sem,ha,hxk])
 |(
  refine aa.here 18 73 5 rfl ?_
  refine aa.region ?_;simp only[go_sem,ha,hxk2])
 |(
  refine aa.here 19 77 4 rfl ?_
  refine aa.lu 5 k 2 rfl (List.getElem?_set_self (by simp;omega)) rfl ?_
  simp only[go_sem,ha]
  rw[OC hkn]
  refine aa.eX 6 0 (jd:=5) (k:=8) (n:=g.ao.length) (cap:=g.ao.length+m) _ ((g.ao.set k (js w x)).map aS++spare 8 m) ay rfl rfl rfl (by simp[cJ]) (by rw[fL];exact fw _) ?_
  rw[fL]
  simp only[go_sem,ha]
  refine aa.region ?_;simp only[go_sem,ha])
 |(
  refine aa.here 5 15 5 rfl ?_
  obtain⟨v,hx⟩:∃v,g.ao[i]?=some v:=⟨_,List.getElem?_eq_getElem ab⟩
  have hv:=hg.2.2 v (List.mem_of_getElem? hx)
  have hx2:(g.ao.map aS++spare 8 m)[i]?=some (aS v):=by rw[List.getElem?_append_left (by simpa using bM hx),List.getElem?_map,hx];rfl
  have hvw:i=k→v=w:=fun e=>by subst e;rw[hx] at hx0;exact Option.some.inj hx0
  (first|have hki:=lP hbk|(have hki:=lQ hbk;have hx3:((g.ao.map aS++spare 8 m).set k (o4 w))[i]?=some (aS v):=(List.getElem?_set_ne ab).trans hx2))
  refine aa.region ?_;simp only[go_sem])
 |(
  refine aa.here 7 29 11 rfl ?_
  (first|rw[cZ hx]|rw[gQ ab hx])
  refine aa.region ?_;simp only[go_sem])
 |(
  refine aa.here 10 57 2 rfl ?_
  (first|rw[cZ hx]|rw[gQ ab hx]|skip)
  (try rw[List.set_set])
  (try(obtain rfl:=hvw hik1;subst hik1))
  refine aa.region ?_;simp only[go_sem])
 |(
  refine aa.here 8 39 11 rfl ?_
  (first|rw[cZ hx]|rw[gQ ab hx])
  rcases Nat.decEq i k with hik0|hik1<;>(first|(exfalso;omega)|(refine aa.region ?_;simp only[go_sem])))
 |(
  refine aa.here 9 49 9 rfl ?_
  first
  |(have h0:=hik1;clear h0
    have hx9:((g.ao.map aS++spare 8 m).set i (.agg [aV v.book.ak,cg v.book.al,.sl (some 0) 1 (v.book.ids.map str),i64 v.book.clock,i64 v.book.bad,aV v.ax,i64 v.last,bl v.bB]))[i]?=some (.agg [aV v.book.ak,cg v.book.al,.sl (some 0) 1 (v.book.ids.map str),i64 v.book.clock,i64 v.book.bad,aV v.ax,i64 v.last,bl v.bB]):=List.getElem?_set_self (by simp;omega)
    refine aa.region ?_;simp only[go_sem])
  |((first|rw[cZ hx]|rw[gQ ab hx]);refine aa.region ?_;simp only[go_sem]))
 |(
  refine aa.here 11 58 5 rfl ?_
  (first|(exfalso;have hki:=lP hbk;omega)|(have hki:=lQ hbk;refine aa.region ?_;simp only[go_sem])))
 |(
  refine aa.here 3 5 4 rfl ?_
  refine aa.bA ?_
  refine an.iY eN ?_
  simp only[go_sem]
  refine an.at 3 1 rfl ?_
  simp only[go_sem]
  refine an.kj jE eN rfl rfl rfl (by simp;omega) (by simp;omega) ?_
  intro m
  simp only[go_sem]
  refine an.of ?_
  simp only[go_sem])
 |(refine aa.here 1 14 4 rfl ?_;refine aa.bA ?_;refine an.at 4 1 rfl ?_;simp only[go_sem,ha])
 |(refine aa.region ?_;simp only[go_sem,ha])
 |(refine hK _ ?_;clear hK K)
 |refine aa.block ?_
 |refine aa.cond rfl (fun c=>?_) (fun c=>?_)<;>first|exact Bool.noConfusion c|(try simp only[dD] at c)
 |refine aa.skip ?_
 |(refine aa.exit ?_;simp only[go_sem,ha])
 |(refine ah.one (ig g (k:Int) hgi) af rfl ?_;simp only[go_sem,ha])
 |(refine ah.one (pU w.book x hw0.1 hw0.2.1 hw0.2.2.1) af rfl ?_;simp only[hcf];simp only[go_sem,ha])
 |(refine ah.one (qn w.ax x (by have:=hw0.2.2.2;omega)) af rfl ?_;simp only[hix];simp only[go_sem,ha])
 |(refine ah.one (fq v.book.ak hv.1) af rfl ?_;simp only[go_sem])
 |(refine ah.one (fq v.ax hv.2.2.2) af rfl ?_;simp only[go_sem])
 |(refine ah.one (kh v.book.al hv.2.1) af rfl ?_;simp only[go_sem])
 |(have h0:=hik1;clear h0;refine ah.of (uK v.book.ids hv.2.2.1) af rfl ?_;rintro r t ⟨rfl,rfl⟩;simp only[go_sem])
 |(refine ah.one (kg v.book.ids hv.2.2.1) af rfl ?_;simp only[go_sem])
 |(refine ah.one (lD g.aT hg2) af rfl ?_;simp only[go_sem])
 |(refine an.call (rs:=[.cell 2 58]) Tryz.func76 rfl Tryz.ntmps76 rfl af rfl rfl ?_;simp only[go_sem])
 |(refine an.call (rs:=[.tmp 2]) Tryz.func144 rfl Tryz.ntmps144 rfl af rfl rfl ?_;simp only[go_sem])
 |(refine aL.cc (fun h=>?_) (fun h=>?_)<;>simp only[h,go_sem,ha]<;>(try simp only[dD] at h))
 |(refine aM.bG ae ?_;(try simp only[go_sem,ha]))
 |(refine aM.gj ae ?_;(try simp only[go_sem,ha]))
 |((first|refine aM.oU ?_ (fun b hb=>?_)|with_reducible refine And.intro ?_ ?_);(focus(first|omega|(simp;done)));(try simp only[hb,go_sem,ha]))
 |(
  refine aa.here 3 13 1 rfl ?_
  refine aa.ck (ι:=Bool×Nat) [3,4,13,14,15,16,17,18,19,20,21,22,23,24,25,26,27,28,29,30,31,32,33,34,35,36,37,38,39,40,41,42,43,44,45,46,47,48,49,50,51,52,53,54,55,56,57] (fun⟨bk,i⟩=>[(12,i64 i)]) (fun⟨bk,i⟩=>[some [.agg [eB g.ao,bT g.aT,bl g.kill,i64 g.now,i64 g.pat]],some [ar x],some [.agg [.aQ,.aQ,bl false,i64 0,i64 0]],some [.agg [.mu 5 8 0 g.ao.length (g.ao.length+m),bT g.aT,bl g.kill,i64 g.now,i64 g.pat]],some [.agg [.aQ,.aQ,bl false,i64 0,i64 0]],some (bif bk then((g.ao.map aS++spare 8 m).set k (o4 w)) else(g.ao.map aS++spare 8 m))]) (fun⟨bk,i⟩=>(bif bk then[w.book.ids.length] else[])) (fun⟨bk,i⟩=>i≤g.ao.length∧bk=decide (k<i)) (fun⟨bk,i⟩=>g.ao.length-i) ((false,0)) ?_ ?_ ?_
  ·(try simp only[go_sem]);(repeat'(first|refine And.intro ?_ ?_|trivial|exact .inr (aR rfl)|exact .inr dN));done
  ·exact⟨by omega,by simp⟩
  rintro⟨bk,i⟩ ⟨h1,hbk⟩
  simp only[go_sem]
  cases bk<;>simp only[cond_true,cond_false])
 |(
  refine⟨(false,i+1),?_,?_,?_⟩
  ·(try simp only[go_sem]);(try rw[av ab ab]);(repeat'(first|refine And.intro ?_ ?_|exact .inr rfl|exact .inr (aR rfl)|exact .inr dN|exact .inr ⟨by simp,by simp⟩));done
  ·(exact⟨by omega,sh ab⟩)
  ·(try simp only[]);omega)
 |(
  refine⟨(true,i+1),?_,?_,?_⟩
  ·(try simp only[go_sem]);(try rw[av ab ab]);(repeat'(first|refine And.intro ?_ ?_|exact .inr rfl|trivial|exact .inr (aR rfl)|exact .inr (Qz ay)));done
  ·(exact⟨by omega,qo ab⟩)
  ·(try simp only[]);omega)
 |(
  refine aa.ret ?_
  refine aB.is ?_;simp only[go_sem,aE,aI,aH,aG,aJ,aF]<;>(first|(rw[B3 ha hx0 hcf hkk hop hsn];simp[cq];done)|skip))
 |(refine aa.ret ?_;refine bR.ret rfl ?_;simp only[go_sem,ha])
 |(refine aa.ret ?_;simp only[gr,gv];refine bR.ret rfl ?_;simp only[go_sem,ha])
 |(refine an.of ?_;simp only[go_sem,ha])
 |((fail_if_success(have:=hbb));(with_reducible intro bb hbb))
 |(exfalso;omega)
 |refine aa.fin ae ?_)
theorem Bx(g:Gt)(k:Nat)(w:Vn)(x:Ex)(hg:bP g)(hx0:g.ao[k]?=some w)(ha:ba g (k:Int)=true)(nb:Bk)(p:Nat)(hcf:bj w.book x=(nb,3))(hsn:(x.kind=1∨x.kind=4)→eK w.ax x=some p):ai E 30 [aO g,i64 (k:Int),ar x] (fun r t=>r= .aC [aO (cr g (k:Int) x).1,i64 (cr g (k:Int) x).2.1,i64 (cr g (k:Int) x).2.2]∧t=[]):=by
 have hgi:=hg.fit
 have hg1:=hg.1
 have hg2:=hg.2.1
 have hkn:=bM hx0
 have hw0:=hg.2.2 w (List.mem_of_getElem? hx0)
 have hil:=hw0.2.2.1
 have hix:=C8 hsn
 refine ai.aw (n:=104) (rs:=[.cell 6 58,.tmp 7,.tmp 8]) Tryz.func30 rfl Tryz.ntmps30 rfl ?_
 repeat'(first
 |(
  refine aa.ky hc1 ?_
  first
  |(refine aa.iN [0,1,2,3,4,6] ay rfl rfl ?_;simp only[go_sem,lM,List.length_map];refine aa.weaken ?_ (hc1 m);(try simp only[go_sem]);(repeat'(first|refine And.intro ?_ ?_|trivial|exact .inr (aR rfl)|exact .inr dN));done)
  |(have he:g.ao=[]:=Classical.byContradiction fun hne=>by
     have:=hbb (by simpa using hne)
     simp_all
    refine aa.lf 3 0 8 _ rfl rfl ?_
    simp only[go_sem]
    refine aa.weaken ?_ (hc1 0);(try simp only[go_sem,he,List.length_nil,List.map_nil,lz]);(repeat'(first|refine And.intro ?_ ?_|trivial|exact .inr (aR rfl)));done))
 |refine aa.aj fun K hK=>?_
 |(
  refine aa.here 1 5 5 rfl ?_
  first
  |(have h0:=hc1;clear h0;refine aa.bA ?_;refine an.at 5 2 rfl ?_;simp only[go_sem])
  |((fail_if_success(have h0:=hc1));refine aa.cutAt (ι:=Nat) [5,6,7,8] (fun(m:Nat)=>[]) (fun(m:Nat)=>[some [.agg [eB g.ao,bT g.aT,bl g.kill,i64 g.now,i64 g.pat]],some [ar x],some [.agg [.aQ,.aQ,bl false,i64 0,i64 0]],some [.agg [.mu 5 8 0 g.ao.length (g.ao.length+m),bT g.aT,bl g.kill,i64 g.now,i64 g.pat]],some [.agg [.aQ,.aQ,bl false,i64 0,i64 0]],some (g.ao.map aS++spare 8 m)]) (fun(m:Nat)=>[]) hK (fun m=>?_) (fun hc1=>?_)))
 |(refine Cut.mk ?_;simp only[go_sem])
 |(
  refine aa.here 4 21 5 rfl ?_
  have hxk:(g.ao.map aS++spare 8 m)[k]?=some (aS w):=by rw[List.getElem?_append_left (by simpa using bM hx0),List.getElem?_map,hx0];rfl
  have hxk2:∀z,((g.ao.map aS++spare 8 m).set k z)[k]?=some z:=fun z=>List.getElem?_set_self (by simp;omega)
  refine aa.region ?_;simp only[go_sem,ha])
 |(
  refine aa.here 5 26 12 rfl ?_
  refine aa.bf [0,1,2,3,4,9,5,6,7,8,10,11] [11] af af rfl ?_;simp only[go_sem,ha,hxk])
 |(
  refine aa.here 15 52 7 rfl ?_
  refine aa.bf [0,1,2,3,4,5,6] [] af af rfl ?_;simp only[go_sem,ha,hxk])
 |(
  refine aa.here 20 78 5 rfl ?_
  refine aa.region ?_;simp only[go_sem,ha,hxk])
 |(
  refine aa.here 25 102 5 rfl ?_
  rw[show(g.ao.map aS++spare 8 m).set k (.agg [aV nb.ak,cg nb.al,.sl none 1 (nb.ids.map str),i64 nb.clock,i64 nb.bad,aV w.ax,i64 w.last,bl w.bB])=(g.ao.set k ⟨nb,w.ax,w.last,w.bB⟩).map aS++spare 8 m from mf (v:=⟨nb,w.ax,w.last,w.bB⟩) hkn]
  refine aa.eX 6 0 (jd:=5) (k:=8) (n:=g.ao.length) (cap:=g.ao.length+m) _ ((g.ao.set k ⟨nb,w.ax,w.last,w.bB⟩).map aS++spare 8 m) ay rfl rfl rfl (by simp[cJ]) (by rw[fL];exact fw _) ?_
  rw[fL]
  simp only[go_sem,ha]
  refine aa.region ?_;simp only[go_sem,ha])
 |(
  refine aa.here 5 15 5 rfl ?_
  obtain⟨v,hx⟩:∃v,g.ao[i]?=some v:=⟨_,List.getElem?_eq_getElem ab⟩
  have hv:=hg.2.2 v (List.mem_of_getElem? hx)
  have hx2:(g.ao.map aS++spare 8 m)[i]?=some (aS v):=by rw[List.getElem?_append_left (by simpa using bM hx),List.getElem?_map,hx];rfl
  refine aa.region ?_;simp only[go_sem])
 |(
  refine aa.here 7 29 11 rfl ?_
  (try rw[cZ hx])
  refine aa.region ?_;simp only[go_sem])
 |(
  refine aa.here 8 39 11 rfl ?_
  (try rw[cZ hx])
  refine aa.region ?_;simp only[go_sem])
 |(
  refine aa.here 9 49 9 rfl ?_
  (try rw[cZ hx])
  refine aa.region ?_;simp only[go_sem])
 |(
  refine aa.here 10 57 2 rfl ?_
  (try rw[cZ hx])
  refine aa.region ?_;simp only[go_sem])
 |(
  refine aa.here 3 5 4 rfl ?_
  refine aa.bA ?_
  refine an.iY eN ?_
  simp only[go_sem]
  refine an.at 3 1 rfl ?_
  simp only[go_sem]
  refine an.kj jE eN rfl rfl rfl (by simp;omega) (by simp;omega) ?_
  intro m
  simp only[go_sem]
  refine an.of ?_
  simp only[go_sem])
 |(refine aa.here 1 14 4 rfl ?_;refine aa.bA ?_;refine an.at 4 1 rfl ?_;simp only[go_sem,ha])
 |(refine aa.region ?_;simp only[go_sem,ha])
 |(refine hK _ ?_;clear hK K)
 |refine aa.block ?_
 |refine aa.cond rfl (fun c=>?_) (fun c=>?_)<;>first|exact Bool.noConfusion c|(try simp only[dD] at c)
 |refine aa.skip ?_
 |(refine aa.exit ?_;simp only[go_sem,ha])
 |(refine ah.one (ig g (k:Int) hgi) af rfl ?_;simp only[go_sem,ha])
 |(refine ah.one (pU w.book x hw0.1 hw0.2.1 hw0.2.2.1) af rfl ?_;simp only[hcf];simp only[go_sem,ha])
 |(have hop:x.kind=1∨x.kind=4:=ab;refine ah.one (qn w.ax x (by have:=hw0.2.2.2;omega)) af rfl ?_;simp only[hix hop];simp only[go_sem,ha])
 |(refine ah.one (fq v.book.ak hv.1) af rfl ?_;simp only[go_sem])
 |(refine ah.one (fq v.ax hv.2.2.2) af rfl ?_;simp only[go_sem])
 |(refine ah.one (kh v.book.al hv.2.1) af rfl ?_;simp only[go_sem])
 |(refine ah.one (kg v.book.ids hv.2.2.1) af rfl ?_;simp only[go_sem])
 |(refine ah.one (lD g.aT hg2) af rfl ?_;simp only[go_sem])
 |(refine an.call (rs:=[.cell 2 58]) Tryz.func76 rfl Tryz.ntmps76 rfl af rfl rfl ?_;simp only[go_sem])
 |(refine an.call (rs:=[.tmp 2]) Tryz.func144 rfl Tryz.ntmps144 rfl af rfl rfl ?_;simp only[go_sem])
 |(refine aL.cc (fun h=>?_) (fun h=>?_)<;>simp only[h,go_sem,ha]<;>(try simp only[dD] at h))
 |(refine aM.bG ae ?_;(try simp only[go_sem,ha]))
 |(refine aM.gj ae ?_;(try simp only[go_sem,ha]))
 |((with_reducible refine And.intro ?_ ?_);(focus(first|omega|(simp;done)));(try simp only[hb,go_sem,ha]))
 |(
  refine aa.here 3 13 1 rfl ?_
  refine aa.cC (ι:=Nat) [3,4,13,14,15,16,17,18,19,20,21,22,23,24,25,26,27,28,29,30,31,32,33,34,35,36,37,38,39,40,41,42,43,44,45,46,47,48,49,50,51,52,53,54,55,56,57] (fun(i:Nat)=>[(12,i64 i)]) (fun(i:Nat)=>i≤g.ao.length) (fun(i:Nat)=>g.ao.length-i) (0) ?_ ?_ ?_
  ·(try simp only[go_sem]);(repeat'(first|refine And.intro ?_ ?_|trivial|exact .inr (aR rfl)|exact .inr dN));done
  ·omega
  rintro i h1
  simp only[go_sem])
 |(
  refine⟨i+1,?_,?_,?_⟩
  ·(try simp only[go_sem]);(try rw[av ab ab]);(repeat'(first|refine And.intro ?_ ?_|exact .inr rfl|trivial|exact .inr (aR rfl)|exact .inr dN));done
  ·omega
  ·(try simp only[]);omega)
 |(
  refine aa.ret ?_
  refine aB.is ?_;simp only[go_sem,aE,aI,aH,aG,aJ,aF]<;>((rw[xj ha hx0 hcf hsn];simp[cq];done)))
 |(refine aa.ret ?_;refine bR.ret rfl ?_;simp only[go_sem,ha])
 |(refine aa.ret ?_;simp only[gr,gv];refine bR.ret rfl ?_;simp only[go_sem,ha])
 |(refine an.of ?_;simp only[go_sem,ha])
 |((fail_if_success(have:=hbb));(with_reducible intro bb hbb))
 |refine aa.fin ae ?_)
theorem Fy(g:Gt)(k:Nat)(w:Vn)(x:Ex)(hg:bP g)(hx0:g.ao[k]?=some w)(ha:ba g (k:Int)=true)(nb:Bk)(hcf:bj w.book x=(nb,1))(hnop:¬(x.kind=1∨x.kind=4)):ai E 30 [aO g,i64 (k:Int),ar x] (fun r t=>r= .aC [aO (cr g (k:Int) x).1,i64 (cr g (k:Int) x).2.1,i64 (cr g (k:Int) x).2.2]∧t=[]):=by
 have hgi:=hg.fit
 have hg1:=hg.1
 have hg2:=hg.2.1
 have hkn:=bM hx0
 have hw0:=hg.2.2 w (List.mem_of_getElem? hx0)
 have hil:=hw0.2.2.1
 refine ai.aw (n:=104) (rs:=[.cell 6 58,.tmp 7,.tmp 8]) Tryz.func30 rfl Tryz.ntmps30 rfl ?_
 repeat'(first
 |(
  refine aa.ky hc1 ?_
  first
  |(refine aa.iN [0,1,2,3,4,6] ay rfl rfl ?_;simp only[go_sem,lM,List.length_map];refine aa.weaken ?_ (hc1 m);(try simp only[go_sem]);(repeat'(first|refine And.intro ?_ ?_|trivial|exact .inr (aR rfl)|exact .inr dN));done)
  |(have he:g.ao=[]:=Classical.byContradiction fun hne=>by
     have:=hbb (by simpa using hne)
     simp_all
    refine aa.lf 3 0 8 _ rfl rfl ?_
    simp only[go_sem]
    refine aa.weaken ?_ (hc1 0);(try simp only[go_sem,he,List.length_nil,List.map_nil,lz]);(repeat'(first|refine And.intro ?_ ?_|trivial|exact .inr (aR rfl)));done))
 |refine aa.aj fun K hK=>?_
 |(
  refine aa.here 1 5 5 rfl ?_
  first
  |(have h0:=hc1;clear h0;refine aa.bA ?_;refine an.at 5 2 rfl ?_;simp only[go_sem])
  |((fail_if_success(have h0:=hc1));refine aa.cutAt (ι:=Nat) [5,6,7,8] (fun(m:Nat)=>[]) (fun(m:Nat)=>[some [.agg [eB g.ao,bT g.aT,bl g.kill,i64 g.now,i64 g.pat]],some [ar x],some [.agg [.aQ,.aQ,bl false,i64 0,i64 0]],some [.agg [.mu 5 8 0 g.ao.length (g.ao.length+m),bT g.aT,bl g.kill,i64 g.now,i64 g.pat]],some [.agg [.aQ,.aQ,bl false,i64 0,i64 0]],some (g.ao.map aS++spare 8 m)]) (fun(m:Nat)=>[]) hK (fun m=>?_) (fun hc1=>?_)))
 |(refine Cut.mk ?_;simp only[go_sem])
 |(
  refine aa.here 4 21 5 rfl ?_
  have hxk:(g.ao.map aS++spare 8 m)[k]?=some (aS w):=by rw[List.getElem?_append_left (by simpa using bM hx0),List.getElem?_map,hx0];rfl
  have hxk2:∀z,((g.ao.map aS++spare 8 m).set k z)[k]?=some z:=fun z=>List.getElem?_set_self (by simp;omega)
  refine aa.region ?_;simp only[go_sem,ha])
 |(
  refine aa.here 5 26 12 rfl ?_
  refine aa.bf [0,1,2,3,4,9,5,6,7,8,10,11] [11] af af rfl ?_;simp only[go_sem,ha,hxk])
 |(
  refine aa.here 20 78 5 rfl ?_
  refine aa.region ?_;simp only[go_sem,ha,hxk])
 |(
  refine aa.here 22 84 6 rfl ?_
  refine aa.region ?_;simp only[go_sem,ha,hxk2])
 |(
  refine aa.here 25 102 5 rfl ?_
  (try rw[List.set_set])
  rw[show(g.ao.map aS++spare 8 m).set k (.agg [aV nb.ak,cg nb.al,.sl none 1 (nb.ids.map str),i64 nb.clock,i64 nb.bad,aV w.ax,i64 g.now,bl w.bB])=(g.ao.set k ⟨nb,w.ax,g.now,w.bB⟩).map aS++spare 8 m from mf (v:=⟨nb,w.ax,g.now,w.bB⟩) hkn]
  refine aa.eX 6 0 (jd:=5) (k:=8) (n:=g.ao.length) (cap:=g.ao.length+m) _ ((g.ao.set k ⟨nb,w.ax,g.now,w.bB⟩).map aS++spare 8 m) ay rfl rfl rfl (by simp[cJ]) (by rw[fL];exact fw _) ?_
  rw[fL]
  simp only[go_sem,ha]
  refine aa.region ?_;simp only[go_sem,ha])
 |(
  refine aa.here 5 15 5 rfl ?_
  obtain⟨v,hx⟩:∃v,g.ao[i]?=some v:=⟨_,List.getElem?_eq_getElem ab⟩
  have hv:=hg.2.2 v (List.mem_of_getElem? hx)
  have hx2:(g.ao.map aS++spare 8 m)[i]?=some (aS v):=by rw[List.getElem?_append_left (by simpa using bM hx),List.getElem?_map,hx];rfl
  refine aa.region ?_;simp only[go_sem])
 |(
  refine aa.here 7 29 11 rfl ?_
  (try rw[cZ hx])
  refine aa.region ?_;simp only[go_sem])
 |(
  refine aa.here 8 39 11 rfl ?_
  (try rw[cZ hx])
  refine aa.region ?_;simp only[go_sem])
 |(
  refine aa.here 9 49 9 rfl ?_
  (try rw[cZ hx])
  refine aa.region ?_;simp only[go_sem])
 |(
  refine aa.here 10 57 2 rfl ?_
  (try rw[cZ hx])
  refine aa.region ?_;simp only[go_sem])
 |(
  refine aa.here 3 5 4 rfl ?_
  refine aa.bA ?_
  refine an.iY eN ?_
  simp only[go_sem]
  refine an.at 3 1 rfl ?_
  simp only[go_sem]
  refine an.kj jE eN rfl rfl rfl (by simp;omega) (by simp;omega) ?_
  intro m
  simp only[go_sem]
  refine an.of ?_
  simp only[go_sem])
 |(refine aa.here 1 14 4 rfl ?_;refine aa.bA ?_;refine an.at 4 1 rfl ?_;simp only[go_sem,ha])
 |(refine aa.region ?_;simp only[go_sem,ha])
 |(refine aa.here 15 52 7 rfl ?_;refine aa.bf [0,1,2,3,4,5,6] [] af af rfl ?_;simp only[go_sem,ha])
 |(refine aa.here 17 60 14 rfl ?_;refine aa.gZ (.take 0 (.take 1 (.take 2 (.take 3 (.take 4 (.take 5 (.take 6 (.take 7 (.take 8 (.take 9 (.take 10 (.take 11 (.take 12 (.take 13 .done)))))))))))))) [[],[],[1],[1,2],[1,2,3],[1,2,3,4],[],[6],[6,7],[1,2,3,4,5,6,7,8],[0,1,2,3,4,5,6,7,8,9],[0,1,2,3,4,5,6,7,8,9,10],[0,1,2,3,4,5,6,7,8,9,10,11],[0,1,2,3,4,5,6,7,8,9,10,11,12]] [] af af ?_;simp only[go_sem,ha])
 |(refine hK _ ?_;clear hK K)
 |refine aa.block ?_
 |refine aa.cond rfl (fun c=>?_) (fun c=>?_)<;>first|exact Bool.noConfusion c|(try simp only[dD] at c)
 |refine aa.skip ?_
 |(refine aa.exit ?_;simp only[go_sem,ha])
 |(refine ah.one (ig g (k:Int) hgi) af rfl ?_;simp only[go_sem,ha])
 |(refine ah.one (pU w.book x hw0.1 hw0.2.1 hw0.2.2.1) af rfl ?_;simp only[hcf];simp only[go_sem,ha])
 |(refine ah.one (qn _ _ (by(omega))) af rfl ?_;simp only[go_sem,ha])
 |(refine ah.one (fq v.book.ak hv.1) af rfl ?_;simp only[go_sem])
 |(refine ah.one (fq v.ax hv.2.2.2) af rfl ?_;simp only[go_sem])
 |(refine ah.one (kh v.book.al hv.2.1) af rfl ?_;simp only[go_sem])
 |(refine ah.one (kg v.book.ids hv.2.2.1) af rfl ?_;simp only[go_sem])
 |(refine ah.one (lD g.aT hg2) af rfl ?_;simp only[go_sem])
 |(refine an.call (rs:=[.cell 2 58]) Tryz.func76 rfl Tryz.ntmps76 rfl af rfl rfl ?_;simp only[go_sem])
 |(refine an.call (rs:=[.tmp 2]) Tryz.func144 rfl Tryz.ntmps144 rfl af rfl rfl ?_;simp only[go_sem])
 |(refine aL.cc (fun h=>?_) (fun h=>?_)<;>simp only[h,go_sem,ha]<;>(try simp only[dD] at h))
 |(refine aM.bG ae ?_;(try simp only[go_sem,ha]))
 |(refine aM.gj ae ?_;(try simp only[go_sem,ha]))
 |((first|refine aM.nth ?_ (fun b hb=>?_)|refine aM.oU ?_ (fun b hb=>?_)|with_reducible refine And.intro ?_ ?_);(focus(first|omega|(simp;done)));(try simp only[hb,go_sem,ha]))
 |(
  refine aa.here 3 13 1 rfl ?_
  refine aa.cC (ι:=Nat) [3,4,13,14,15,16,17,18,19,20,21,22,23,24,25,26,27,28,29,30,31,32,33,34,35,36,37,38,39,40,41,42,43,44,45,46,47,48,49,50,51,52,53,54,55,56,57] (fun(i:Nat)=>[(12,i64 i)]) (fun(i:Nat)=>i≤g.ao.length) (fun(i:Nat)=>g.ao.length-i) (0) ?_ ?_ ?_
  ·(try simp only[go_sem]);(repeat'(first|refine And.intro ?_ ?_|trivial|exact .inr (aR rfl)|exact .inr dN));done
  ·omega
  rintro i h1
  simp only[go_sem])
 |(
  refine⟨i+1,?_,?_,?_⟩
  ·(try simp only[go_sem]);(try rw[av ab ab]);(repeat'(first|refine And.intro ?_ ?_|exact .inr rfl|trivial|exact .inr (aR rfl)|exact .inr dN));done
  ·omega
  ·(try simp only[]);omega)
 |(
  refine aa.ret ?_
  refine aB.is ?_;simp only[go_sem,aE,aI,aH,aG,aJ,aF]<;>((rw[Ap ha hx0 hcf hnop];simp[cq];done)))
 |(refine aa.ret ?_;refine bR.ret rfl ?_;simp only[go_sem,ha])
 |(refine aa.ret ?_;simp only[gr,gv];refine bR.ret rfl ?_;simp only[go_sem,ha])
 |(refine an.of ?_;simp only[go_sem,ha])
 |((fail_if_success(have:=hbb));(with_reducible intro bb hbb))
 |(exfalso;omega)
 |refine aa.fin ae ?_)
end Go.Proofs.YtajeeghgiilhiaaGreat
end
