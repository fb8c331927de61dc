/- (T7, T8, G25, G26, G27) -/
import Derived.Test.YtajeeghgiilhiaaGreatKxRb
import Derived.Test.YtajeeghgiilhiaaGreatKxO
import Derived.Test.YtajeeghgiilhiaaGreatKxP
import Derived.Shelf.SlSortCmp.NoneTotal
import Derived.Test.YtajeeghgiilhiaaGreatKxQc
import Derived.Test.YtajeeghgiilhiaaGreatKxJ
import Derived.Test.YtajeeghgiilhiaaGreatKxQ
import Derived.Test.YtajeeghgiilhiaaGreatKxQb
import Derived.Test.YtajeeghgiilhiaaGreatKxA
set_option linter.unusedVariables false
set_option linter.unusedSimpArgs false
set_option linter.unusedSectionVars false
set_option maxHeartbeats 16000000
set_option maxRecDepth 8000
section
namespace Go.Proofs.YtajeeghgiilhiaaGreat
open Go Go.Abs Go.RowKit Go.Bk
theorem Nw(bc cap:Nat)(l:List Nm)(w:World)(hH:Go.Sort.HoldsK j0 2 w bc 0 l.toArray)(hb:bc<w.heap.size)(hl:l.length<4611686018427387904):
 Calls Tryz.prog 129 #[.slice (some ⟨bc,0,none⟩) l.length cap,.func (.func 130) #[] #[]] w fun e w'=>e= .returned (.tuple #[])∧∃n os,w'=Go.Sort.grow (Go.Sort.putRowK j0 2 (Go.Sort.ahead w n) bc 0 (fR l).toArray) os:=by
 have h:=Go.Proofs.AnyQ.slices_SortFunc_total Tryz.A0 2 Tryz.isAgg176 Tryz.sizeOf176 j0 (fun _=>rfl) (fun x v hv=>by
  simp only[j0,List.mem_cons,List.not_mem_nil,or_false] at hv
  rcases hv with rfl|rfl<;>rfl) eA ⟨jV,fun _ _ _=>lE,fun _ _ _=>sM⟩ 130 #[] bc 0 cap l.toArray w (Go.Proofs.enters_of Tryz.func130 af rfl) (Nb _ _ _ _) hH hb hl (fun x y h1 h2=>Kr h1 h2)
 exact h
theorem X4(p:Option Addr)(cap:Nat)(w:World):Calls Tryz.prog 129 #[.slice p 0 cap,.func (.func 130) #[] #[]] w fun e w'=>e= .returned (.tuple #[])∧w'=w:=Go.Proofs.AnyF.slices_SortFunc_none Tryz.A0 p cap _ w
theorem Nv{ops:Array Oper}{rest:List Oper}{Q:Exit→St→Prop}{st:St}{dst:Option Tmp}{x:Operand}{tys:Array TypeId}{ty:TypeId}{pos:String}{after:Array Edge}{id cap:Nat}{l:List Nm}{sp:List AV}
 (hx:st.ev x= .mu id 2 0 l.length cap) (ho:st.own[id]?=some (some (l.map da++sp))) (hsz:l.length≤1000000)
 (h:an E ops rest Q (St.put { st with own:=st.own.set id (some ((fR l).map da++sp)) } dst (.aC []))):
 an E ops (⟨dst,.call ⟨.value (.func 129),#[x,.func 130],tys⟩,ty,pos,after,none⟩::rest) Q st:=
 an.Dc j0 2 da ay (fun _=>rfl) (fun _=>rfl) (fun x v hv=>by
  simp only[j0,List.mem_cons,List.not_mem_nil,or_false] at hv
  rcases hv with rfl|rfl<;>rfl) af rfl rfl fR se Nw X4 hx ho hsz h
theorem nT{l:List Nm}{m i:Nat}{x:Nm}(h:l[i]?=some x):(l.map da++spare 2 m)[i]?=some (da x):=by
 rw[List.getElem?_append_left (by simpa using bM h),List.getElem?_map,h];rfl
theorem Xi{l:List Nm}{m i:Nat}{x:Nm}(h:i<l.length):(l.map da++spare 2 m).set i (da x)=(l.set i x).map da++spare 2 m:=by
 rw[List.set_append_left _ _ (by simpa using h),List.map_set]
theorem wO{no nt m:Nat}{l:List Nm}:∀e∈l.map da++spare 2 m,∀z∈e.leaves,z.bO no nt=true:=mY (f:=da) (fun x z hz=>by
 simp only[AV.leaves,List.mem_cons,List.not_mem_nil,or_false] at hz
 rcases hz with rfl|rfl<;>rfl) _ rfl
theorem xM{x y:Nm}(h:x.1=y.1→¬x.2=y.2):¬x=y:=fun e=>h (congrArg Prod.fst e) (congrArg Prod.snd e)
theorem Ao{x y:Nm}(h:x.1=y.1∧x.2=y.2):x=y:=Prod.ext h.1 h.2
theorem QS{l:List Nm}{k:Nat}{x y:Nm}(hk:1≤k)(h:cG l k=l.take k)(hx:l[k]?=some x)(hy:l[k-1]?=some y)(hne:¬x=y):cG l (k+1)=l.take (k+1):=by
 rw[Ay ab hx hy hne,h,cF hx]
theorem Ft{l:List Nm}{k:Nat}(hk:l.length≤k)(hk2:k≤l.length)(h:cG l k=l.take k):ei l=l:=by
 have:k=l.length:=by omega
 subst this;unfold ei;rw[h,List.take_length]
theorem Td{l:List Nm}{q:Nat}{x:Nm}(h:q<l.length):(l.set q x).take (q+1)=l.take q++[x]:=by
 rw[List.take_add_one,List.getElem?_set_self h,List.take_set_of_le (Nat.le_refl _)];rfl
set_option maxRecDepth 100000 in
theorem Gs{ops:Array Oper}{l0:List Oper}{Q:Exit→St→Prop}{tmps up:List AV}{gl:Nat→Option (List AV)}{own:List (Option (List AV))}{tk:List Nat}{dst:Option Tmp}{x0:Operand}{tys:Array TypeId}{ty:TypeId}{pos:String}{after:Array Edge}{id m N:Nat}{l:List Nm}
 (hx0:St.ev ⟨tmps,own,tk,gl,none,up⟩ x0= .mu id 2 0 N (N+m)) (ho:own[id]?=some (some (l.map da++spare 2 m))) (hbu:(tmps++up).all (AV.bO own.length tk.length)=true) (hbo:bu own own.length tk.length) (hl:N≤1000000) (hN:l.length=N)
 (hend:∀m':Nat,an E ops l0 Q (St.put ⟨tmps,own.set id (some ((ei l).map da++spare 2 m')),tk,gl,none,up⟩ dst (.mu id 2 0 (ei l).length (N+m)))):
 an E ops (⟨dst,.call ⟨.value (.func 133),#[x0],tys⟩,ty,pos,after,none⟩::l0) Q ⟨tmps,own,tk,gl,none,up⟩:=by
 have hid:=bN ho
 obtain⟨ow,how⟩:∃ow:List (Option (List AV)),own=ow.set id (some (l.map da++spare 2 m)):=⟨own,(mZ ho).symm⟩
 subst how
 rw[List.length_set] at hid
 have hob:∀(d':List Nm),bu (ow.set id (some (d'.map da++spare 2 m))) ow.length tk.length:=fun d'=>by
  have:=hbo.set (id:=id) (wO (l:=d') (m:=m));rwa[List.set_set,List.length_set] at this
 rw[List.length_set] at hbu
 simp only[List.set_set] at hend
 refine an.call (caps:=[]) (rs:=[.tmp 2]) Tryz.func133 rfl Tryz.ntmps133 rfl af rfl rfl ?_
 show aa E _ _ ⟨([St.ev _ x0]++[])++List.replicate (61-1) (.v undef),_,tk,gl,none,tmps++up⟩
 rw[hx0]
 have hBr:∀(tm:List AV) (m':Nat),tm[2]?=some (.mu id 2 0 (ei l).length (N+m))→bR E.P [.tmp 2] ⟨tmps,ow.set id (some (l.map da++spare 2 m)),tk,gl,none,up⟩ (fun s z=>an E ops l0 Q (s.put dst z)) .ret ⟨tm,ow.set id (some ((ei l).map da++spare 2 m')),tk,gl,none,tmps++up⟩:=fun tm m' hu=>by
  refine⟨rfl,?_⟩
  have gu:∀ow,St.ev ⟨tm,ow,tk,gl,none,tmps++up⟩ (.tmp 2)= .mu id 2 0 (ei l).length (N+m):=fun ow=>by simp[St.ev,List.getD_eq_getElem?_getD,hu]
  show an E ops l0 Q (St.put _ dst (gW [St.ev _ (.tmp 2)]))
  rw[gu]
  exact hend m'
 generalize bR E.P [.tmp 2] ⟨tmps,ow.set id (some (l.map da++spare 2 m)),tk,gl,none,up⟩ (fun s z=>an E ops l0 Q (s.put dst z))=Q1 at hBr ⊢
 generalize tmps++up=up' at hbu hBr ⊢
 clear hend ho hbo hx0
 have hset:∀x,(ow.set id x)[id]?=some x:=fun x=>List.getElem?_set_self hid
 repeat'(first
 |refine aa.aj fun K hK=>?_
 |(
  refine aa.here 6 16 10 rfl ?_
  obtain⟨x,hx⟩:∃x,l[k]?=some x:=⟨_,List.getElem?_eq_getElem ab⟩
  obtain⟨y,hy⟩:∃y,l[k-1]?=some y:=⟨_,List.getElem?_eq_getElem ab⟩
  have w0:IntKind.i64.wrap ((k:Int)-1)=((k-1:Nat):Int):=by rw[av ab ab];omega
  have f1:=nT (m:=m) hx
  have f2:=nT (m:=m) hy
  refine aa.bf [0,1,2,3,4,5,6,7,8,9] [] af af rfl ?_;simp only[go_sem,hset,List.set_set,List.length_set,w0,f1,f2,Int.toNat_natCast])
 |(
  refine aa.here 11 35 10 rfl ?_
  obtain⟨u,hu2⟩:∃x,l[k+k2]?=some x:=⟨_,List.getElem?_eq_getElem ab⟩
  obtain⟨v,hv2⟩:∃x,l[k+k2-1]?=some x:=⟨_,List.getElem?_eq_getElem ab⟩
  have hu3:=(g6 (k+k2) ab).trans hu2
  have hv3:=(g6 (k+k2-1) ab).trans hv2
  have w0:IntKind.i64.wrap ((k2:Int)-1)=((k2-1:Nat):Int):=by rw[av ab ab];omega
  have f1:=nT (m:=m) hu3
  have f2:(r.map da++spare 2 m)[k+(k2-1)]?=some (da v):=by rw[show k+(k2-1)=k+k2-1 by omega];exact nT hv3
  refine aa.bf [0,1,2,3,4,5,6,7,8,9] [] af af rfl ?_;simp only[go_sem,hset,List.set_set,List.length_set,w0,f1,f2,Int.toNat_natCast])
 |(
  refine aa.here 12 45 8 rfl ?_
  have f3:(r.map da++spare 2 m).set q (da u)=(r.set q u).map da++spare 2 m:=Xi ab
  obtain⟨z,hz⟩:∃z,r[q]?=some z:=⟨_,List.getElem?_eq_getElem ab⟩
  have f4:=nT (m:=m) hz
  refine aa.region ?_;simp only[go_sem,hset,List.set_set,List.length_set,f1,f3,f4,Int.toNat_natCast])
 |(
  refine aa.here 13 52 3 rfl ?_
  have w0:IntKind.i64.wrap ((q:Int)+1)=((q+1:Nat):Int):=by rw[av ab ab];omega
  refine aa.region ?_;simp only[go_sem,hset,List.set_set,List.length_set,w0])
 |(
  refine aa.here 10 33 3 rfl ?_
  have w0:IntKind.i64.wrap ((k2:Int)+1)=((k2+1:Nat):Int):=by rw[av ab ab];omega
  refine aa.region ?_;simp only[go_sem,hset,List.set_set,List.length_set,w0])
 |(
  refine aa.here 7 26 4 rfl ?_
  refine aa.bA ?_
  refine an.at 4 2 rfl ?_
  simp only[go_sem,hset,List.set_set,List.length_set]
  refine an.j5 (e:=176) (k:=2) (l:=k) af af bz bz ab ab ab ?_
  simp only[go_sem,hset,List.set_set,List.length_set]
  refine an.of ?_
  simp only[go_sem,hset,List.set_set,List.length_set])
 |(
  refine aa.here 14 54 4 rfl ?_
  have hq:k+k2=N:=by omega
  have hcr:r.take q=ei l:=by rw[g5,hq];unfold ei;rw[hN]
  have hcl:(ei l).length=q:=by rw[←hcr,List.length_take];omega
  refine aa.bA ?_
  refine an.at 4 2 rfl ?_
  simp only[go_sem,hset,List.set_set,List.length_set]
  refine an.j5 (e:=176) (k:=2) (l:=q) af af bz bz ab ab ab ?_
  simp only[go_sem,hset,List.set_set,List.length_set]
  refine an.CV (e:=176) (k:=2) (n:=32) (cap:=N+m-q) (len:=N-q-1) (A:=(ei l).map da) (B:=(r.drop q).map da++spare 2 m) Cj af (by rw[List.length_map,hcl,show N-q-1+1=N-q by omega];rfl) (by rw[hset,←hcr,←List.append_assoc,←List.map_append,List.take_append_drop]) (by simp only[List.length_append,List.length_map,List.length_drop];omega) ?_
  simp only[go_sem,hset,List.set_set,List.length_set]
  refine an.of ?_
  simp only[go_sem,hset,List.set_set,List.length_set])
 |(refine aa.region ?_;simp only[go_sem,hset,List.set_set,List.length_set])
 |(refine hK _ ?_;clear hK K)
 |refine aa.block ?_
 |refine aa.cond rfl (fun c=>?_) (fun c=>?_)<;>(try simp only[dD] at c)
 |refine aa.skip ?_
 |(refine aa.exit ?_;simp only[go_sem,hset,List.set_set,List.length_set])
 |((with_reducible refine And.intro ?_ ?_);(focus(first|omega|(simp;done)));(try simp only[hb,go_sem,hset,List.set_set,List.length_set]))
 |(
  refine aa.here 4 10 4 rfl ?_
  refine aa.cC (ι:=Nat) [2,4,5,10,11,12,13,14,15,16,17,18,19,20,21,22,23,24,25,26,27,28,29,30,31,32,33,34,35,36,37,38,39,40,41,42,43,44,45,46,47,48,49,50,51,52,53,54,55,56,57,58,59] (fun(k:Nat)=>[(3,i64 k)]) (fun(k:Nat)=>1≤k∧k≤N∧cG l k=l.take k) (fun(k:Nat)=>N-k) (1) ?_ ?_ ?_
  ·(try simp only[go_sem]);(try simp only[List.set_set,List.length_set]);(repeat'(first|assumption|exact bu.wk (hob _)|exact dm|exact .inr (decide_eq_true hid)|refine And.intro ?_ ?_));done
  ·exact⟨by omega,by omega,yS l⟩
  rintro k ⟨h1,h2,h3⟩
  simp only[go_sem,hset,List.set_set,List.length_set])
 |(
  refine aa.here 9 29 4 rfl ?_
  refine aa.ck (ι:=Nat×Nat×List Nm) [29,30,31,32,33,34,35,36,37,38,39,40,41,42,43,44,45,46,47,48,49,50,51,52,53] (fun⟨k2,q,r⟩=>[(5,i64 k2),(3,i64 q)]) (fun⟨k2,q,r⟩=>ow.set id (some (r.map da++spare 2 m))) (fun⟨k2,q,r⟩=>tk) (fun⟨k2,q,r⟩=>1≤k2∧k+k2≤N∧q+1≤k+k2∧r.length=N∧r.take q=cG l (k+k2)∧(∀j,k+k2≤j+1→r[j]?=l[j]?)∧(cG l (k+k2)).length=q) (fun⟨k2,q,r⟩=>N-k2) ((1,k,l)) ?_ ?_ ?_
  ·(try simp only[go_sem]);(try simp only[List.set_set,List.length_set]);(repeat'(first|assumption|exact bu.wk (hob _)|exact dm|exact .inr (decide_eq_true hid)|refine And.intro ?_ ?_));done
  ·(have e1:=zV ab hx hy (Ao ae);exact⟨by omega,by omega,by omega,hN,by rw[e1,h3],fun _ _=>rfl,by rw[e1,h3,List.length_take];omega⟩)
  rintro⟨k2,q,r⟩ ⟨g1,g2,g3,g4,g5,g6,g7⟩
  simp only[go_sem,hset,List.set_set,List.length_set])
 |(
  refine⟨k+1,?_,?_,?_⟩
  ·(try simp only[go_sem]);(try rw[av ab ab]);(try simp only[List.set_set,List.length_set]);(repeat'(first|assumption|exact bu.wk (hob _)|exact dm|exact .inr (decide_eq_true hid)|refine And.intro ?_ ?_|exact .inr rfl));done
  ·exact⟨by omega,by omega,QS h1 h3 hx hy (xM ae)⟩
  ·(try simp only[]);omega)
 |(
  refine⟨(k2+1,q+1,r.set q u),?_,?_,?_⟩
  ·(try simp only[go_sem]);(try rw[av ab ab]);(try simp only[List.set_set,List.length_set]);(repeat'(first|assumption|exact bu.wk (hob _)|exact dm|exact .inr (decide_eq_true hid)|refine And.intro ?_ ?_));done
  ·(try dsimp only);(have e1:=Ay (l:=l) (i:=k+k2) ab hu2 hv2 (xM ae);exact⟨by omega,by omega,by omega,by rw[List.length_set];exact g4,by rw[show k+(k2+1)=k+k2+1 by omega,e1,←g5];exact Td ab,fun j hj=>by rw[List.getElem?_set_ne ab];exact g6 j ab,by rw[show k+(k2+1)=k+k2+1 by omega,e1,List.length_append,g7];rfl⟩)
  ·(try simp only[]);omega)
 |(
  refine⟨(k2+1,q,r),?_,?_,?_⟩
  ·(try simp only[go_sem]);(try rw[av ab ab]);(try simp only[List.set_set,List.length_set]);(repeat'(first|assumption|exact bu.wk (hob _)|exact dm|exact .inr (decide_eq_true hid)|refine And.intro ?_ ?_));done
  ·(try dsimp only);(have e1:=zV (l:=l) (i:=k+k2) ab hu2 hv2 (Ao ae);exact⟨by omega,by omega,by omega,g4,by rw[show k+(k2+1)=k+k2+1 by omega,e1];exact g5,fun j hj=>g6 j ab,by rw[show k+(k2+1)=k+k2+1 by omega,e1];exact g7⟩)
  ·(try simp only[]);omega)
 |(
  first
  |(refine aa.ret ?_
    (try simp only[gr,gv])
    (try simp only[List.set_set])
    have e1:=Gy (show l.length<2 by omega)
    have e2:=hBr
    rw[e1,hN] at e2
    exact e2 _ _ rfl)
  |(refine aa.ret ?_
    (try simp only[gr,gv])
    (try simp only[List.set_set])
    have e1:=Ft ab ab h3
    have e2:=hBr
    rw[e1,hN] at e2
    exact e2 _ _ rfl)
  |(refine aa.ret ?_
    (try simp only[gr,gv])
    (try simp only[List.set_set])
    have e2:=hBr
    rw[hcl] at e2
    exact e2 _ _ rfl))
 |refine aa.fin ae ?_)
theorem wA{no nt m:Nat}{l:List Nm}:∀es,some (l.map da++spare 2 m)=some es→∀e∈es,∀z∈e.leaves,z.bO no nt=true:=mY fun x z hz=>by
 simp only[AV.leaves,List.mem_cons,List.not_mem_nil,or_false] at hz
 rcases hz with rfl|rfl<;>rfl
theorem DB{l:List Nm}{m:Nat}:(l.map da++spare 2 m).take l.length=l.map da:=List.take_left' aD
theorem VN{l:List Nm}{a s:Bs}:l.map da++[.agg [str a,str s]]=(l++[(a,s)]).map da:=by simp
@[go_sem] theorem Zv{σ:Nat→Option Nat}{l:List Nm}{m:Nat}:(l.map da++spare 2 m).map (AV.ch σ)=l.map da++spare 2 m:=sA fun _=>rfl
theorem A1(bk:Bk)(ho:bk.ak.length≤9223372036854775807)(hf:bk.al.length≤1000000)(hi:bk.ids.length≤9223372036854775807):ai E 56 [dx bk] (fun r t=>r=ez (cD bk)∧t=[]):=by
 have hnlen:(eb bk).length=bk.al.length:=List.length_map _
 have hcl:=CM (fR (eb bk))
 rw[se] at hcl
 refine ai.aw (n:=48) (rs:=[.tmp 2]) Tryz.func56 rfl Tryz.ntmps56 rfl ?_
 repeat'(first
 |refine aa.aj fun K hK=>?_
 |(
  refine aa.here 6 17 4 rfl ?_
  obtain⟨f,hb⟩:∃f,bk.al[i]?=some f:=⟨_,List.getElem?_eq_getElem ab⟩
  refine aa.region ?_;simp only[go_sem])
 |(
  refine aa.here 8 27 2 rfl ?_
  rw[DB,VN]
  refine aa.iN [0,3] ay rfl rfl ?_
  simp only[go_sem]
  refine aa.region ?_;simp only[go_sem])
 |(
  refine aa.here 13 35 4 rfl ?_
  obtain⟨n,hn⟩:∃n,(ei (fR (eb bk)))[j]?=some n:=⟨_,List.getElem?_eq_getElem ab⟩
  have f1:=nT (m:=m') hn
  refine aa.region ?_;simp only[go_sem,f1,Int.toNat_natCast])
 |(
  refine aa.here 9 28 2 rfl ?_
  have hnl:nl=eb bk:=by rw[h4,List.take_of_length_le ab];rfl
  rw[hnl]
  refine aa.bA ?_
  refine an.at 2 1 rfl ?_
  simp only[go_sem]
  (repeat(refine⟨⟨_,rfl⟩,?_⟩))
  refine Nv (id:=1) (l:=eb bk) bz bz ab ?_
  simp only[go_sem]
  refine an.of ?_
  simp only[go_sem])
 |(
  refine aa.here 11 30 4 rfl ?_
  refine aa.bA ?_
  refine an.at 4 1 rfl ?_
  simp only[go_sem]
  refine Gs (id:=1) (m:=m) (N:=(eb bk).length) (l:=fR (eb bk)) bz bz (by(rfl)) (by(repeat'(first|exact bu.nil|refine bu.cons ?_ ?_))<;>(intro es h;first|(cases h;exact wO)|(cases h;simp[AV.leaves,AV.bO,AV.eh,AV.de]))) ab (se _) ?_
  intro m'
  simp only[go_sem]
  refine an.of ?_
  simp only[go_sem]
  (repeat(refine⟨⟨_,rfl⟩,?_⟩)))
 |(refine aa.region ?_;simp only[go_sem])
 |(refine hK _ ?_;clear hK K)
 |refine aa.block ?_
 |refine aa.cond rfl (fun c=>?_) (fun c=>?_)<;>(try simp only[dD] at c)
 |refine aa.skip ?_
 |(refine aa.exit ?_;simp only[go_sem])
 |(refine ah.one (mQ bk ho ab hi) af rfl ?_;simp only[go_sem])
 |(refine ah.one (PS bk n.1 n.2 ho ab hi) af rfl ?_;simp only[go_sem])
 |(refine aM.bG ae ?_;(try simp only[go_sem]))
 |((with_reducible refine And.intro ?_ ?_);(focus(first|omega|(simp;done)|(simp[cJ];done)));(try simp only[hb,go_sem]))
 |(
  refine aa.here 5 16 1 rfl ?_
  refine aa.tZ 3 2 rfl ?_
  simp only[go_sem]
  refine aa.ck (ι:=Nat×List Nm×Nat) [5,16,17,18,19,20,21,22,23,24,25,26,27] (fun⟨i,nl,m⟩=>[(15,i64 i),(3,.mu 1 2 0 nl.length (nl.length+m))]) (fun⟨i,nl,m⟩=>[some [.agg [aV bk.ak,cg bk.al,.sl none 1 (bk.ids.map str),i64 bk.clock,i64 bk.bad]],some (nl.map da++spare 2 m)]) (fun⟨i,nl,m⟩=>[]) (fun⟨i,nl,m⟩=>i≤bk.al.length∧nl=(bk.al.take i).map fun f=>(f.acc,f.sym)) (fun⟨i,nl,m⟩=>bk.al.length-i) ((0,[],0)) ?_ ?_ ?_
  ·(try simp only[go_sem]);(repeat'(first|refine And.intro ?_ ?_|exact .inr (aR rfl)|exact .inr ⟨rfl,aR rfl⟩));done
  ·exact⟨by omega,rfl⟩
  rintro⟨i,nl,m⟩ ⟨h3,h4⟩
  simp only[go_sem]
  have hll:nl.length=i:=by rw[h4,List.length_map,List.length_take];omega)
 |(
  refine aa.here 12 34 1 rfl ?_
  refine aa.fu 6 5 rfl ?_
  simp only[go_sem]
  refine aa.ck (ι:=Nat×List Po) [8,34,35,36,37,38,39,40,41,42,43,44,45,46] (fun⟨j,out⟩=>[(33,i64 j),(6,.sl (some 0) 5 (out.map bL))]) (fun⟨j,out⟩=>[some [.agg [aV bk.ak,cg bk.al,.sl none 1 (bk.ids.map str),i64 bk.clock,i64 bk.bad]],some ((ei (fR (eb bk))).map da++spare 2 m')]) (fun⟨j,out⟩=>[out.length]) (fun⟨j,out⟩=>j≤(ei (fR (eb bk))).length∧out=((ei (fR (eb bk))).take j).map fun n=>cM bk n.1 n.2) (fun⟨j,out⟩=>(ei (fR (eb bk))).length-j) ((0,[])) ?_ ?_ ?_
  ·(try simp only[go_sem]);(repeat'(first|exact .inr wA|refine And.intro ?_ ?_|exact .inr (aR rfl)));done
  ·exact⟨by omega,rfl⟩
  rintro⟨j,out⟩ ⟨g1,g2⟩
  simp only[go_sem]
  have hol:out.length=j:=by rw[g2,List.length_map,List.length_take];omega)
 |(
  refine⟨(i+1,nl++[(f.acc,f.sym)],mm),?_,⟨by show i+1≤_;omega,by show nl++[(f.acc,f.sym)]=(bk.al.take (i+1)).map _;rw[h4,cF hb];simp⟩,by show bk.al.length-(i+1)<bk.al.length-i;omega⟩
  (try simp only[go_sem]);(try rw[av ab ab]);(try simp only[List.length_append,List.length_singleton]);(repeat'(first|exact .inr wA|refine And.intro ?_ ?_|exact .inr rfl|exact .inr (aR rfl)));done)
 |(
  refine⟨(j+1,out++[cM bk n.1 n.2]),?_,⟨by show j+1≤_;omega,by show out++[cM bk n.1 n.2]=(List.take (j+1) _).map _;rw[g2,cF hn];simp⟩,by show _-(j+1)<_-j;omega⟩
  (try simp only[go_sem]);(try rw[av ab ab]);(try simp only[List.map_append,List.map_cons,List.map_nil,List.length_append,List.length_singleton]);(repeat'(first|exact .inr wA|refine And.intro ?_ ?_|exact .inr rfl|exact .inr (aR rfl)|(simp;done)));done)
 |(
  refine aa.ret ?_
  refine aB.is ?_;simp only[go_sem,aE,aI,aH,aG,aJ,aF]<;>(first|(unfold cD;rw[if_neg (by simp_all)];(exact trivial))|(unfold cD;rw[if_pos ae,g2,List.take_of_length_le ab];done)))
 |(refine fun(mm:Nat)=>?_;simp only[go_sem])
 |refine aa.fin ae ?_)
theorem pR{l:List Od}{id:Bs}(h:bW l id<0):ji l id=false:=by
 have h2:=sE h
 unfold hasB at h2;unfold ji
 rw[List.any_eq_false] at h2 ⊢
 intro x hx
 have:=h2 x hx
 simp at this;simp[this]
theorem SU{id:Bs}{n:Nat}{o:Od}{b:Bk}(hb:aW b=true)(hp:b7 b.ak id=some n)(ho:b.ak[n]?=some o):ji b.ak id=o.bq:=by
 have hr:bd b.ak=true:=by
  simp only[aW,fO,Bool.and_eq_true] at hb;exact hb.1.1.1.1.1.1.1.1.1
 have hnd:=(jO.1 hr).2.2
 obtain⟨o2,h1,h2,_⟩:=nH hp
 rw[ho] at h1;cases h1
 unfold ji
 cases hb:o.bq with
 |true=>exact List.any_eq_true.2 ⟨o,List.mem_of_getElem? ho,by simp[h2,hb]⟩
 |false=>
  rw[List.any_eq_false]
  intro x hx hc
  simp only[Bool.and_eq_true,decide_eq_true_eq] at hc
  obtain⟨j,hj⟩:=List.mem_iff_getElem?.1 hx
  have hjl:j<(b.ak.map (·.id)).length:=by rw[List.length_map];exact bM hj
  have e:(b.ak.map (·.id))[j]?=(b.ak.map (·.id))[n]?:=by rw[List.getElem?_map,List.getElem?_map,hj,ho];simp[hc.1,h2]
  have:=(List.getElem?_inj hjl hnd).1 e
  subst this
  rw[ho] at hj;cases hj
  rw[hb] at hc;exact absurd hc.2 aD
theorem xD{v:Vn}{now:Int}{id:Bs}(h:aW v.book=true∧bd v.ax=true∧v.book.ak.length+v.ax.length≤64∧0≤v.last∧v.last≤now∧∀o∈v.ax,o.bq=true∧hasB v.book.ak o.id=false):ji v.ax id=hasB v.ax id:=by
 unfold ji hasB
 have:∀o∈v.ax,(decide (o.id=id)&&o.bq)=decide (o.id=id):=fun o ho=>by rw[(h.2.2.2.2.2 o ho).1,Bool.and_true]
 exact Bool.eq_iff_iff.2 (by simp only[List.any_eq_true];exact⟨fun⟨o,ho,e⟩=>⟨o,ho,by rw[←this o ho];exact e⟩,fun⟨o,ho,e⟩=>⟨o,ho,by rw[this o ho];exact e⟩⟩)
theorem uu{g:Gt}(h:bt g=true):g.ao.length≤4:=by
 simp only[bt,Bool.and_eq_true,decide_eq_true_eq] at h;exact h.1.1.1.1.2
def gY(g:Gt):List Po:=if bt g then(dP (g.ao.map fun v=>cD v.book)).1 else[]
theorem ph{ls:List (List Po)}(h:¬(dP ls).2=0):(dP ls).1=[]:=by
 unfold dP at h ⊢
 split at h
 ·simp at h
 ·rename_i h2;rw[if_neg h2]
theorem yU{l:List Vn}{i:Nat}{v:Vn}(h:l[i]?=some v):((l.take (i+1)).map fun v=>cD v.book)=((l.take i).map fun v=>cD v.book)++[cD v.book]:=by
 rw[List.take_add_one,h];simp
theorem BG{α:Type}{m:Nat}:∀{l:List (List α)},(∀x∈l,x.length≤m)→l.flatten.length≤m*l.length
 |[],_=>by simp
 |a::l,h=>by
  have h1:=h a aD
  have h2:=BG (l:=l) (fun x hx=>h x (by simp[hx]))
  simp only[List.flatten_cons,List.length_append,List.length_cons,Nat.mul_add,Nat.mul_one];omega
theorem vM{g:Gt}(h:bt g=true):(g.ao.map fun v=>cD v.book).flatten.length≤1000000:=by
 have h4:=uu h
 have:=BG (m:=256) (l:=g.ao.map fun v=>cD v.book) (fun x hx=>by
  obtain⟨v,hv,rfl⟩:=List.mem_map.1 hx
  have h1:=w8 v.book
  have h2:v.book.al.length≤256:=by
   simp only[bt,Bool.and_eq_true,List.all_eq_true] at h
   have h3:=h.2 v hv
   simp only[dv,aW,fO,Bool.and_eq_true,decide_eq_true_eq] at h3
   omega
  omega)
 rw[List.length_map] at this
 omega
attribute [local irreducible] cD dP
theorem kJ(g:Gt)(n:Int)(id:Bs)(hg:dS g)(hlm:cU g.aT):ai E 50 [aO g,i64 n,str id] (fun r t=>r= .aC [bl (mj g n id).1,i64 (mj g n id).2]∧t=[]):=by
 have hg1:=hg.1
 have hg2:=hg.2.1
 refine ai.aw (n:=44) (rs:=[.tmp 6,.tmp 7]) Tryz.func50 rfl Tryz.ntmps50 rfl ?_
 repeat'(first
 |refine aa.aj fun K hK=>?_
 |(
  refine aa.here 3 15 7 rfl ?_
  have hat:ba g n=true:=by assumption
  obtain⟨k,v,rfl,hx⟩:=fk ae
  have hv:=hg.2.2 v (List.mem_of_getElem? hx)
  have hn:=bM hx
  have hrv:=iH (jW hat hx)
  refine aa.region ?_;simp only[go_sem])
 |(refine aa.region ?_;simp only[go_sem])
 |(refine aa.here 4 20 11 rfl ?_;refine aa.bf [0,1,2,3,5,6,7,4,8,9,10] [] af af rfl ?_;simp only[go_sem])
 |(refine hK _ ?_;clear hK K)
 |refine aa.cond rfl (fun c=>?_) (fun c=>?_)<;>(try simp only[dD] at c)
 |refine aa.skip ?_
 |(refine ah.one (fE g n hg hlm) af rfl ?_;simp only[go_sem])
 |(refine ah.one (fY v.book.ak id hv.1) af rfl ?_;simp only[go_sem])
 |(refine ah.one (fY v.ax id hv.2.2.2) af rfl ?_;simp only[go_sem])
 |(refine aL.cc (fun h=>?_) (fun h=>?_)<;>simp only[h,go_sem]<;>(try simp only[dD] at h))
 |(refine aL.split (fun h=>?_) (fun h=>?_)<;>simp only[h,go_sem]<;>(try simp only[dD] at h))
 |(refine aM.bG ae ?_;(try simp only[go_sem]))
 |((first|refine aM.nth ?_ (fun b hb=>?_)|with_reducible refine And.intro ?_ ?_);(focus(omega));(try simp only[hb,go_sem]))
 |(
  refine aa.ret ?_
  refine aB.is ?_;simp only[go_sem,aE,aI,aH,aG,aJ,aF]<;>(first|(rw[yR ae];exact⟨rfl,rfl⟩)|(rw[tS hat hx,pR ab,xD hrv,←oZ];(simp;done))|(rw[tS hat hx,SU hrv.1 hpf hoo,xD hrv,←oZ];(simp[*];done))))
 |(obtain⟨m,o,hp,hpf,hoo,hn2⟩:=lW (l:=v.book.ak) (id:=id) ab;simp only[hp,hoo,go_sem,Int.toNat_natCast]))
theorem CI(g:Gt)(a s:Bs)(hg:bP g)(hlm:cU g.aT):ai E 53 [aO g,str a,str s] (fun r t=>r=wV (if bt g then jT g a s else(0,0))∧t=[]):=by
 have hgi:=hg.fit
 have hg1:=hg.1
 refine ai.aw (n:=63) (rs:=[.cell 6 45]) Tryz.func53 rfl Tryz.ntmps53 rfl ?_
 repeat'(first
 |refine aa.aj fun K hK=>?_
 |(
  refine aa.here 5 22 11 rfl ?_
  obtain⟨v,hx⟩:∃v,g.ao[i]?=some v:=⟨_,List.getElem?_eq_getElem ab⟩
  have hv:=hgi.2.2 v (List.mem_of_getElem? hx)
  refine aa.region ?_;simp only[go_sem])
 |(refine aa.region ?_;simp only[go_sem])
 |(refine hK _ ?_;clear hK K)
 |refine aa.block ?_
 |refine aa.cond rfl (fun c=>?_) (fun c=>?_)<;>first|exact Bool.noConfusion c|(try simp only[dD] at c)
 |refine aa.skip ?_
 |(refine aa.exit ?_;simp only[go_sem])
 |(refine ah.one (DZ v.book a s (by have:=(hg.2.2 v (List.mem_of_getElem? hx)).1;omega) (by have:=(hg.2.2 v (List.mem_of_getElem? hx)).2.1;omega) (by have:=(hg.2.2 v (List.mem_of_getElem? hx)).2.2.1;omega)) af rfl ?_;simp only[go_sem])
 |(refine ah.one (Jz v.ax a s hv.2.2.2) af rfl ?_;simp only[go_sem])
 |(refine ah.one (gO g hgi hlm) af rfl ?_;simp only[go_sem])
 |(refine aL.split (fun h=>?_) (fun h=>?_)<;>simp only[h,go_sem]<;>(try simp only[dD] at h))
 |(refine aM.bG ae ?_;(try simp only[go_sem]))
 |((with_reducible refine And.intro ?_ ?_);(focus((simp;done)));(try simp only[hb,go_sem]))
 |(
  refine aa.here 3 11 9 rfl ?_
  refine aa.ck (ι:=Nat) [9,10,11,12,13,14,15,16,17,18,19,20,21,22,23,24,25,26,27,28,29,30,31,32,33,34,35,36,37,38,39,40,41,42,43,44,45,46,47,48,49,50,51,52,53,54,55,56,57] (fun(i:Nat)=>[(8,i64 i)]) (fun(i:Nat)=>[some [.agg [eB g.ao,bT g.aT,bl g.kill,i64 g.now,i64 g.pat]],some [.agg [i64 0,i64 0]],some [.agg [i64 (ib g.ao a s i).1,i64 (ib g.ao a s i).2]]]) (fun(i:Nat)=>[]) (fun(i:Nat)=>i≤g.ao.length∧i≤4) (fun(i:Nat)=>g.ao.length-i) (0) ?_ ?_ ?_
  ·(try simp only[go_sem]);(repeat'(first|refine And.intro ?_ ?_|trivial|exact .inr (aR rfl)|exact .inr ⟨rfl,aR rfl⟩));done
  ·exact⟨by omega,by omega⟩
  rintro i ⟨h1,h2⟩
  simp only[go_sem])
 |(
  refine⟨i+1,?_,⟨by omega,by omega⟩,by omega⟩
  rw[An hx]
  (try simp only[go_sem,et]);(try rw[av (x:=(i:Int)+1) ab ab]);(repeat'(first|refine And.intro ?_ ?_|exact .inr rfl|trivial|exact .inr (aR rfl)));done)
 |(
  refine aa.ret ?_
  refine aB.is ?_;simp only[go_sem,aE,aI,aH,aG,aJ,aF]<;>(first|(rw[if_neg (by rw[show bt g=false by assumption];simp)];(exact⟨rfl,rfl⟩))|(exfalso;have h4:=uu (show bt g=true by assumption);omega)|(have hr:bt g=true:=ae;have h4:=uu hr;rw[if_pos hr,show jT g a s=ib g.ao a s i from(Bz ab).symm];(exact⟨rfl,rfl⟩))))
 |refine aa.fin ae ?_)
theorem kL(g:Gt)(hg:bP g)(hlm:cU g.aT):ai E 47 [aO g] (fun r t=>r=ez (gY g)∧t=[]):=by
 have hgi:=hg.fit
 have hg1:=hg.1
 refine ai.aw (n:=33) (rs:=[.tmp 2]) Tryz.func47 rfl Tryz.ntmps47 rfl ?_
 repeat'(first
 |refine aa.aj fun K hK=>?_
 |(
  refine aa.here 7 17 11 rfl ?_
  obtain⟨v,hx⟩:∃v,g.ao[i]?=some v:=⟨_,List.getElem?_eq_getElem ab⟩
  refine aa.region ?_;simp only[go_sem,htl])
 |(
  refine aa.here 8 28 7 rfl ?_
  have hi4:g.ao.length≤i:=by omega
  rw[List.take_of_length_le hi4]
  refine aa.region ?_;simp only[go_sem])
 |(refine aa.region ?_;simp only[go_sem])
 |(refine hK _ ?_;clear hK K)
 |refine aa.block ?_
 |refine aa.cond rfl (fun c=>?_) (fun c=>?_)<;>(try simp only[dD] at c)
 |refine aa.skip ?_
 |(refine aa.exit ?_;simp only[go_sem])
 |(refine ah.one (gO g hgi hlm) af rfl ?_;simp only[go_sem])
 |(refine ah.one (Rs v.book (by have:=(hg.2.2 v (List.mem_of_getElem? hx)).1;omega) (by have:=(hg.2.2 v (List.mem_of_getElem? hx)).2.1;omega) (by have:=(hg.2.2 v (List.mem_of_getElem? hx)).2.2.1;omega)) af rfl ?_;simp only[go_sem])
 |(refine ah.one (U5 (g.ao.map fun v=>cD v.book) (by simp;omega) (vM ae)) af rfl ?_;simp only[go_sem])
 |(refine aM.bG ae ?_;(try simp only[go_sem]))
 |((with_reducible refine And.intro ?_ ?_);(focus(first|omega|(simp;done)));(try simp only[hb,go_sem]))
 |(
  refine aa.here 5 10 5 rfl ?_
  refine aa.fu 3 1 rfl ?_
  simp only[go_sem]
  refine aa.ck (ι:=Nat) [10,11,12,13,14,15,16,17,18,19,20,21,22,23,24,25,26] (fun(i:Nat)=>[(4,i64 i),(3,.sl (some 0) 1 (((g.ao.take i).map fun v=>cD v.book).map fun x=>AV.sl none 5 (x.map bL)))]) (fun(i:Nat)=>[some [.agg [eB g.ao,bT g.aT,bl g.kill,i64 g.now,i64 g.pat]]]) (fun(i:Nat)=>[i]) (fun(i:Nat)=>i≤g.ao.length∧(g.ao.take i).length=i) (fun(i:Nat)=>g.ao.length-i) (0) ?_ ?_ ?_
  ·(try simp only[go_sem]);(try simp only[List.take_zero,List.map_nil]);(repeat'(exact .inr (aR rfl)));done
  ·exact⟨by omega,by simp⟩
  rintro i ⟨h1,htl⟩
  simp only[go_sem]
  (try simp only[htl]))
 |(
  refine⟨i+1,?_,?_,?_⟩
  ·(try simp only[go_sem]);(try rw[av ab ab]);(try simp only[go_sem,yU hx,List.map_append,List.map_cons,List.map_nil]);(try rw[av ab ab]);(repeat'(first|exact htl.symm|refine And.intro ?_ ?_|exact .inr rfl|exact .inr (aR rfl)));done
  ·exact⟨by omega,by rw[List.length_take];omega⟩
  ·(try simp only[]);omega)
 |(
  refine aa.ret ?_
  refine aB.is ?_;simp only[go_sem,aE,aI,aH,aG,aJ,aF]<;>(first|(unfold gY;rw[if_neg (by rw[show bt g=false by assumption];simp)];(exact trivial))|(unfold gY;rw[if_pos ae];(done))))
 |(refine And.intro (congrArg some htl.symm) ?_)
 |refine aa.fin ae ?_)
theorem kK(g:Gt)(hg:bP g):ai E 46 [aO g] (fun r t=>r=ez (gY g)∧t=[]):=by
 have hgi:=hg.fit
 have hg1:=hg.1
 refine ai.aw (n:=33) (rs:=[.tmp 2]) Tryz.func46 rfl Tryz.ntmps46 rfl ?_
 repeat'(first
 |refine aa.aj fun K hK=>?_
 |(
  refine aa.here 6 16 4 rfl ?_
  obtain⟨v,hx⟩:∃v,g.ao[i]?=some v:=⟨_,List.getElem?_eq_getElem ab⟩
  refine aa.region ?_;simp only[go_sem])
 |(
  refine aa.here 7 18 7 rfl ?_
  refine aa.region ?_;simp only[go_sem,htl])
 |(
  refine aa.here 9 26 7 rfl ?_
  have hi4:g.ao.length≤i:=by omega
  rw[List.take_of_length_le hi4]
  refine aa.region ?_;simp only[go_sem])
 |(refine aa.region ?_;simp only[go_sem])
 |(refine hK _ ?_;clear hK K)
 |refine aa.block ?_
 |refine aa.cond rfl (fun c=>?_) (fun c=>?_)<;>(try simp only[dD] at c)
 |refine aa.skip ?_
 |(refine aa.exit ?_;simp only[go_sem])
 |(refine ah.one (gk g hgi) af rfl ?_;simp only[go_sem])
 |(refine ah.one (A1 v.book (by have:=(hg.2.2 v (List.mem_of_getElem? hx)).1;omega) (by have:=(hg.2.2 v (List.mem_of_getElem? hx)).2.1;omega) (by have:=(hg.2.2 v (List.mem_of_getElem? hx)).2.2.1;omega)) af rfl ?_;simp only[go_sem])
 |(refine ah.one (RK (g.ao.map fun v=>cD v.book) (by simp;omega) (vM ae)) af rfl ?_;simp only[go_sem])
 |(refine aM.bG ae ?_;(try simp only[go_sem]))
 |((with_reducible refine And.intro ?_ ?_);(focus(first|omega|(simp;done)));(try simp only[hb,go_sem]))
 |(
  refine aa.here 5 15 1 rfl ?_
  refine aa.fu 3 1 rfl ?_
  simp only[go_sem]
  refine aa.ck (ι:=Nat) [5,15,16,17,18,19,20,21,22,23,24] (fun(i:Nat)=>[(14,i64 i),(3,.sl (some 0) 1 (((g.ao.take i).map fun v=>cD v.book).map fun x=>AV.sl none 5 (x.map bL)))]) (fun(i:Nat)=>[some [.agg [eB g.ao,bT g.aT,bl g.kill,i64 g.now,i64 g.pat]]]) (fun(i:Nat)=>[i]) (fun(i:Nat)=>i≤g.ao.length∧(g.ao.take i).length=i) (fun(i:Nat)=>g.ao.length-i) (0) ?_ ?_ ?_
  ·(try simp only[go_sem]);(try simp only[List.take_zero,List.map_nil]);(repeat'(exact .inr (aR rfl)));done
  ·exact⟨by omega,by simp⟩
  rintro i ⟨h1,htl⟩
  simp only[go_sem]
  (try simp only[htl]))
 |(
  refine⟨i+1,?_,?_,?_⟩
  ·(try simp only[go_sem]);(try rw[av ab ab]);(try simp only[go_sem,yU hx,List.map_append,List.map_cons,List.map_nil]);(try rw[av ab ab]);(repeat'(first|exact htl.symm|refine And.intro ?_ ?_|exact .inr rfl|exact .inr (aR rfl)));done
  ·exact⟨by omega,by rw[List.length_take];omega⟩
  ·(try simp only[]);omega)
 |(
  refine aa.ret ?_
  refine aB.is ?_;simp only[go_sem,aE,aI,aH,aG,aJ,aF]<;>(first|(unfold gY;rw[if_neg (by rw[show bt g=false by assumption];simp)];(exact trivial))|(unfold gY;rw[if_pos ae];(done))|(unfold gY;rw[if_pos ae,ph ae];(exact trivial))))
 |(refine And.intro (congrArg some htl.symm) ?_)
 |refine aa.fin ae ?_)
theorem uC(bk:Bk)(x:Ex)(hx:iF x)(ho:bk.ak.length≤9223372036854775807)(hf:bk.al.length≤9223372036854775807)(hi:bk.ids.length≤9223372036854775807):ai E 176 [dx bk,ar x] (fun r t=>r= .aC [dx (bj bk x).1,i64 (bj bk x).2]∧t=[]):=by
 refine ai.aw (n:=55) (rs:=[.cell 4 26,.tmp 5]) Tryz.func176 rfl Tryz.ntmps176 rfl ?_
 repeat'(first
 |refine aa.aj fun K hK=>?_
 |(
  refine aa.here 3 17 9 rfl ?_
  have hrt:=D7 (bk:=bk) (x:=x) ae ae
  refine aa.region ?_;simp only[go_sem])
 |(refine aa.region ?_;simp only[go_sem])
 |(refine aa.here 7 34 10 rfl ?_;refine aa.gZ (.take 1 (.take 2 (.take 4 (.take 5 (.fork (.alt 0 (.fork (.alt 3 (.take 6 (.take 7 (.take 8 (.take 9 .done)))) (.alt 6 (.take 3 (.take 7 (.take 8 (.take 9 .done)))) .ends))) (.alt 6 (.take 0 (.take 3 (.take 7 (.take 8 (.take 9 .done))))) .ends))))))) [[],[],[1],[0,1,2],[],[4],[4,5],[0,1,2,3,4,5,6],[0,1,2,3,4,5,6,7],[0,1,2,3,4,5,6,7,8]] [] af af ?_;simp only[go_sem])
 |(refine hK _ ?_;clear hK K)
 |refine aa.cond rfl (fun c=>?_) (fun c=>?_)<;>first|exact Bool.noConfusion c|(try simp only[dD] at c)
 |refine aa.skip ?_
 |(refine ah.one (qq bk ho hf hi) af rfl ?_;simp only[go_sem])
 |(refine ah.one (Ed _ ae) af rfl ?_;simp only[go_sem])
 |(refine ah.one (zZ bk.ids x.id ab) af rfl ?_;simp only[go_sem])
 |((try simp only[Mm]);refine ah.one (Rn ⟨bk.ak,bk.al,bk.ids++[x.id],bk.clock,bk.bad⟩ x hrt.1 hrt.2.1 hrt.2.2.1 hrt.2.2.2.1) af rfl ?_;simp only[go_sem])
 |(refine aL.split (fun h=>?_) (fun h=>?_)<;>simp only[h,go_sem]<;>(try simp only[dD] at h))
 |((with_reducible refine And.intro ?_ ?_);(focus(first|omega|(simp;done)));(try simp only[hb,go_sem]))
 |(
  refine aa.ret ?_
  refine aB.is ?_;simp only[go_sem,aE,aI,aH,aG,aJ,aF]<;>(first
  |(rw[wW (.inl ae)];simp;done)
  |(rw[wW (.inr ae)];simp;done)
  |(rw[pP ae ae,wD (.inl ae)];simp;done)
  |(rw[pP ae ae,wD (.inr ab)];simp;done)
  |(rw[pP ae ae,SY ab ae];simp;done)
  |(rw[pP ae ae,EU hrt.1 hrt.2.2.2.2 ab ae ae];simp;done)
  |(rw[pP ae ae,IT hrt.1 hrt.2.2.2.2 ab ae ae];simp;done)))
 |(refine And.intro ?_ ?_))
def jU(o:Od)(q:Int):Od:=⟨o.id,o.acc,o.sym,o.az,q,o.aA,o.done,o.bq⟩
def jo(g:Gt)(k:Nat)(v:Vn)(o:Od)(q:Int):Gt×Int×Int:=if eM v o.id then(g,0,7) else if dy g v (jU o q)≠0 then(g,dy g v (jU o q),0) else(cq g k (fg v o),0,0)
theorem rU{g:Gt}{n:Int}(h:ba g n=true):bt g=true:=by simp only[ba,Bool.and_eq_true] at h;exact h.2
section
variable{g:Gt}{k:Nat}{v:Vn}{o:Od}{q:Int}
theorem Cc(h:0≤bW v.book.ak o.id∨0≤bW v.ax o.id):jo g k v o q=(g,0,7):=by
 have:eM v o.id=true:=by unfold eM;rw[←oZ,←oZ];simpa using h
 unfold jo;rw[if_pos this]
theorem AF(h1:bW v.book.ak o.id<0)(h2:bW v.ax o.id<0):eM v o.id=false:=by unfold eM;rw[sE h1,sE h2];rfl
theorem vw(h1:bW v.book.ak o.id<0)(h2:bW v.ax o.id<0)(h:¬dy g v (jU o q)=0):jo g k v o q=(g,dy g v (jU o q),0):=by
 unfold jo;rw[AF h1 h2,if_neg aD,if_pos h]
theorem MN(h1:bW v.book.ak o.id<0)(h2:bW v.ax o.id<0)(h:dy g v (jU o q)=0):jo g k v o q=(cq g k (fg v o),0,0):=by
 unfold jo;rw[AF h1 h2,if_neg aD,if_neg (by simp[h])]
theorem Bw(h:g.kill=true):dy g v (jU o q)=8:=by unfold dy;rw[h];rfl
theorem zO(h:g.kill=false)(h2:¬eV v g.now g.pat=0):dy g v (jU o q)=16+eV v g.now g.pat:=by unfold dy;rw[h,if_neg aD,if_pos h2]
theorem um(h:g.kill=false)(h2:eV v g.now g.pat=0):dy g v (jU o q)=mV g.aT (jU o q) (jT g o.acc o.sym):=by unfold dy;rw[h,if_neg aD,if_neg (by simp[h2])];rfl
theorem Mg{n:Nat}(h:ba g (n:Int)=true)(hm:bw (dJ o)=true)(hx:g.ao[n]?=some v):eL g (n:Int) o=jo g n v (dJ o) o.aq:=by rw[pw h hm hx];rfl
section
variable{old id:Bs}{p:Int}{m:Nat}(hat:ba g (k:Int)=true)(hx:g.ao[k]?=some v)(hb:aW v.book=true)
include hat hx hb
theorem z6:bd v.book.ak=true:=by simp only[aW,fO,Bool.and_eq_true] at hb;exact hb.1.1.1.1.1.1.1.1.1
theorem Vt(h:bW v.book.ak old<0):eo g (k:Int) old id q p=(g,0,6):=by
 have hf:(findF v.book.ak old).2=false:=by
  unfold findF;rw[z6 hat hx hb]
  unfold bW at h
  cases hp:b7 v.book.ak old with
  |none=>rfl
  |some n=>rw[hp] at h;exact absurd h (by simp only;omega)
 rw[ku hat hx,if_pos (.inl hf)]
theorem uy(hp:b7 v.book.ak old=some m)(ho:v.book.ak[m]?=some o):findF v.book.ak old=(o,true):=by
 unfold findF;rw[z6 hat hx hb,hp];simp[List.getD_eq_getElem?_getD,ho]
theorem OL(hp:b7 v.book.ak old=some m)(ho:v.book.ak[m]?=some o)(h:o.bq=false):eo g (k:Int) old id q p=(g,0,6):=by
 rw[ku hat hx,uy hat hx hb hp ho,if_pos (.inr h)]
theorem Dt(hp:b7 v.book.ak old=some m)(ho:v.book.ak[m]?=some o)(h:o.bq=true)(hm:bw (eZ o id q p)=false):eo g (k:Int) old id q p=(g,0,1):=by
 rw[ku hat hx,uy hat hx hb hp ho,if_neg (by simp[h]),if_pos hm]
theorem To(hp:b7 v.book.ak old=some m)(ho:v.book.ak[m]?=some o)(h:o.bq=true)(hm:bw (eZ o id q p)=true):eo g (k:Int) old id q p=jo g k v (eZ o id q p) (q-o.done):=by
 rw[ku hat hx,uy hat hx hb hp ho,if_neg (by simp[h]),if_neg (by simp[hm])]
 have e:dy g v (lH o id q p)=dy g v (jU (eZ o id q p) (q-o.done)):=rfl
 unfold jo;rw[←e];rfl
end
end
theorem YQ(g:Gt)(k:Nat)(v:Vn)(o:Od)(hk:k<g.ao.length)(hl:g.ao.length≤1000000):ai E 177 [aO g,i64 (k:Int),.agg [aV v.book.ak,cg v.book.al,.sl none 1 (v.book.ids.map str),i64 v.book.clock,i64 v.book.bad,.sl none 8 (v.ax.map a8++[a8 o]),i64 v.last,bl v.bB]] (fun r t=>r=aO (cq g k (fg v o))∧t=[]):=by
 have h:=lk g k (fg v o) hk hl
 have e:(.agg [aV v.book.ak,cg v.book.al,.sl none 1 (v.book.ids.map str),i64 v.book.clock,i64 v.book.bad,.sl none 8 (v.ax.map a8++[a8 o]),i64 v.last,bl v.bB]:AV)=aS (fg v o):=by simp[fg]
 rw[e]
 exact h
theorem yz(g:Gt)(k:Nat)(v:Vn)(o:Od)(q:Int)(hg:bP g)(hlm:cU g.aT)(hx:g.ao[k]?=some v)(hat:ba g (k:Int)=true):ai E 175 [aO g,i64 (k:Int),a8 o,i64 q] (fun r t=>r= .aC [aO (jo g k v o q).1,i64 (jo g k v o q).2.1,i64 (jo g k v o q).2.2]∧t=[]):=by
 have hgi:=hg.fit
 have hg1:=hg.1
 have hg2:=hgi.2.1
 have hv:=hgi.2.2 v (List.mem_of_getElem? hx)
 have hn:=bM hx
 have hsm:=o7 hat hx
 have hr:=rU hat
 have hst:=wu v g.now g.pat
 have hw16:IntKind.i64.wrap (16+eV v g.now g.pat)=16+eV v g.now g.pat:=av ab ab
 refine ai.aw (n:=76) (rs:=[.cell 8 58,.tmp 9,.tmp 10]) Tryz.func175 rfl Tryz.ntmps175 rfl ?_
 repeat'(first
 |refine aa.aj fun K hK=>?_
 |(refine aa.region ?_;simp only[go_sem,hw16,hr,if_true])
 |(refine aa.here 11 50 11 rfl ?_;refine aa.bf [0,1,2,3,4,5,6,7,8,9,10] [] af af rfl ?_;simp only[go_sem,hw16,hr,if_true])
 |(refine aa.here 14 64 9 rfl ?_;refine aa.gZ (.take 1 (.take 2 (.take 4 (.fork (.alt 0 (.fork (.alt 3 (.take 5 (.take 6 (.take 7 (.take 8 .done)))) (.alt 5 (.take 3 (.take 6 (.take 7 (.take 8 .done)))) .ends))) (.alt 5 (.take 0 (.take 3 (.take 6 (.take 7 (.take 8 .done))))) .ends)))))) [[],[],[1],[0,1,2],[],[4],[0,1,2,3,4,5],[0,1,2,3,4,5,6],[0,1,2,3,4,5,6,7]] [] af af ?_;simp only[go_sem,hw16,hr,if_true])
 |(refine hK _ ?_;clear hK K)
 |refine aa.cond rfl (fun c=>?_) (fun c=>?_)<;>first|exact Bool.noConfusion c|(try simp only[dD] at c)
 |refine aa.skip ?_
 |(refine ah.one (fY v.book.ak o.id hv.1) af rfl ?_;simp only[go_sem,hw16,hr,if_true])
 |(refine ah.one (fY v.ax o.id hv.2.2.2) af rfl ?_;simp only[go_sem,hw16,hr,if_true])
 |(refine ah.one (zf g k v hx hsm) af rfl ?_;simp only[go_sem,hw16,hr,if_true])
 |(refine ah.one (CI g o.acc o.sym hg hlm) af rfl ?_;simp only[go_sem,hw16,hr,if_true])
 |(refine ah.one (P1 g.aT (jU o q) (jT g o.acc o.sym) hg2 hlm) af rfl ?_;simp only[go_sem,hw16,hr,if_true])
 |(refine ah.one (YQ g k v o hn hg1) af rfl ?_;simp only[go_sem,hw16,hr,if_true])
 |(refine aL.cc (fun h=>?_) (fun h=>?_)<;>simp only[h,go_sem,hw16,hr,if_true]<;>(try simp only[dD] at h))
 |(refine aM.bG ae ?_;(try simp only[go_sem,hw16,hr,if_true]))
 |((with_reducible refine And.intro ?_ ?_);(focus(omega));(try simp only[hb,go_sem,hw16,hr,if_true]))
 |(
  refine aa.ret ?_
  refine aB.is ?_;simp only[go_sem,aE,aI,aH,aG,aJ,aF]<;>(try((first|(rw[Cc (.inl ab)];(exact⟨⟨rfl,rfl,rfl,rfl,rfl⟩,rfl,rfl⟩))|(rw[Cc (.inr ab)];(exact⟨⟨rfl,rfl,rfl,rfl,rfl⟩,rfl,rfl⟩))|(rw[vw ab ab (by rw[Bw ae];decide),Bw ae];(exact⟨⟨rfl,rfl,rfl,rfl,rfl⟩,rfl,rfl⟩))|(rw[vw ab ab (by rw[zO ae ae];omega),zO ae ae];(exact⟨⟨rfl,rfl,rfl,rfl,rfl⟩,rfl,rfl⟩))|(rw[vw ab ab (by rw[um ae ae];assumption),um ae ae];(exact⟨⟨rfl,rfl,rfl,rfl,rfl⟩,rfl,rfl⟩))|(rw[MN ab ab (by rw[um ae ae];assumption)];(exact⟨⟨rfl,rfl,rfl,rfl,rfl⟩,rfl,rfl⟩))))))
 |(refine And.intro ?_ ?_))
theorem L5(g:Gt)(n:Int)(o:Od)(hg:bP g)(hlm:cU g.aT):ai E 112 [aO g,i64 n,a8 o] (fun r t=>r= .aC [aO (eL g n o).1,i64 (eL g n o).2.1,i64 (eL g n o).2.2]∧t=[]):=by
 have hgi:=hg.fit
 refine ai.aw (n:=30) (rs:=[.cell 6 58,.tmp 7,.tmp 8]) Tryz.func112 rfl Tryz.ntmps112 rfl ?_
 repeat'(first
 |refine aa.aj fun K hK=>?_
 |(
  refine aa.here 5 21 12 rfl ?_
  obtain⟨k,v,rfl,hx⟩:=fk ae
  have hv:=hg.2.2 v (List.mem_of_getElem? hx)
  have hn:=bM hx
  refine aa.region ?_;simp only[go_sem])
 |(refine aa.region ?_;simp only[go_sem])
 |(refine hK _ ?_;clear hK K)
 |refine aa.cond rfl (fun c=>?_) (fun c=>?_)<;>first|exact Bool.noConfusion c|(try simp only[dD] at c)
 |refine aa.skip ?_
 |(refine ah.one (fE g n hgi hlm) af rfl ?_;simp only[go_sem])
 |(refine ah.one (qh (dJ o)) af rfl ?_;simp only[go_sem])
 |(refine ah.one (yz g k v (dJ o) o.aq hg hlm hx ae) af rfl ?_;simp only[go_sem])
 |(refine aL.split (fun h=>?_) (fun h=>?_)<;>simp only[h,go_sem]<;>(try simp only[dD] at h))
 |(
  refine aa.ret ?_
  refine aB.is ?_;simp only[go_sem,aE,aI,aH,aG,aJ,aF]<;>(try((first|(rw[re ae];(exact⟨⟨rfl,rfl,rfl,rfl,rfl⟩,rfl,rfl⟩))|(rw[vD ae];(exact⟨⟨rfl,rfl,rfl,rfl,rfl⟩,rfl,rfl⟩))|(rw[Mg ae ae hx];(exact⟨⟨rfl,rfl,rfl,rfl,rfl⟩,rfl,rfl⟩)))))))
theorem Sh(g:Gt)(n:Int)(old id:Bs)(q p:Int)(hg:bP g)(hlm:cU g.aT):ai E 113 [aO g,i64 n,str old,str id,i64 q,i64 p] (fun r t=>r= .aC [aO (eo g n old id q p).1,i64 (eo g n old id q p).2.1,i64 (eo g n old id q p).2.2]∧t=[]):=by
 have hgi:=hg.fit
 refine ai.aw (n:=69) (rs:=[.cell 12 58,.tmp 13,.tmp 14]) Tryz.func113 rfl Tryz.ntmps113 rfl ?_
 repeat'(first
 |refine aa.aj fun K hK=>?_
 |(
  refine aa.here 3 23 8 rfl ?_
  have hat:ba g n=true:=ae
  obtain⟨k,v,rfl,hx⟩:=fk ae
  have hv:=hg.2.2 v (List.mem_of_getElem? hx)
  have hn:=bM hx
  have hrv:=iH (jW hat hx)
  refine aa.region ?_;simp only[go_sem])
 |(
  refine aa.here 13 58 14 rfl ?_
  have hmb:=z8 (show bw (eZ o id q p)=true by assumption)
  simp only[eZ] at hmb
  have hw:IntKind.i64.wrap (q-o.done)=q-o.done:=av ab ab
  refine aa.region ?_;simp only[go_sem,hw])
 |(refine aa.region ?_;simp only[go_sem])
 |(refine hK _ ?_;clear hK K)
 |refine aa.cond rfl (fun c=>?_) (fun c=>?_)<;>first|exact Bool.noConfusion c|(try simp only[dD] at c)
 |refine aa.skip ?_
 |(refine ah.one (fE g n hgi hlm) af rfl ?_;simp only[go_sem])
 |(refine ah.one (fY v.book.ak old hv.fit.1) af rfl ?_;simp only[go_sem])
 |(refine ah.one (qh (eZ o id q p)) af rfl ?_;simp only[go_sem])
 |(refine ah.one (yz g k v (eZ o id q p) (q-o.done) hg hlm hx hat) af rfl ?_;simp only[go_sem])
 |(refine aL.cc (fun h=>?_) (fun h=>?_)<;>simp only[h,go_sem]<;>(try simp only[dD] at h))
 |(refine aM.bG ae ?_;(try simp only[go_sem]))
 |((first|refine aM.nth ?_ (fun b hb=>?_)|with_reducible refine And.intro ?_ ?_);(focus(omega));(try simp only[hb,go_sem]))
 |(
  refine aa.ret ?_
  refine aB.is ?_;simp only[go_sem,aE,aI,aH,aG,aJ,aF]<;>(try((first|(rw[rk ae];(exact⟨⟨rfl,rfl,rfl,rfl,rfl⟩,rfl,rfl⟩))|(rw[Vt hat hx hrv.1 ab];(exact⟨⟨rfl,rfl,rfl,rfl,rfl⟩,rfl,rfl⟩))|(rw[OL hat hx hrv.1 hpf hoo ae];(exact⟨⟨rfl,rfl,rfl,rfl,rfl⟩,rfl,rfl⟩))|(rw[Dt hat hx hrv.1 hpf hoo ae ae];(exact⟨⟨rfl,rfl,rfl,rfl,rfl⟩,rfl,rfl⟩))|(rw[To hat hx hrv.1 hpf hoo ae ae];(exact⟨⟨rfl,rfl,rfl,rfl,rfl⟩,rfl,rfl⟩))))))
 |(obtain⟨m,o,hp,hpf,hoo,hn2⟩:=lW (l:=v.book.ak) (id:=old) ab;simp only[hp,hoo,go_sem,Int.toNat_natCast]))
end Go.Proofs.YtajeeghgiilhiaaGreat
end
