/- (T7, T8, G25, G26, G27, T9, K1) -/
import Derived.Test.YtajeeghgiilhiaaGreatKwRb
import Derived.Test.YtajeeghgiilhiaaGreatKwO
import Derived.Shelf.SlSortCmp.NoneTotal
import Derived.Test.YtajeeghgiilhiaaGreatKwQb
import Derived.Test.YtajeeghgiilhiaaGreatKwJ
import Derived.Test.YtajeeghgiilhiaaGreatKwP
import Derived.Test.YtajeeghgiilhiaaGreatKwQ
import Derived.Test.YtajeeghgiilhiaaGreatKwK
set_option linter.unusedVariables false
set_option linter.unusedSimpArgs false
set_option linter.unusedSectionVars false
set_option maxHeartbeats 16000000
set_option maxRecDepth 8000
section
namespace Go.Proofs.YtajeeghgiilhiaaGreat
open Go Go.Abs Go.RowKit Go.Bk
theorem KC(aV cap:Nat)(l:List Nm)(w:World)(hH:Go.Sort.HoldsK jY 2 w aV 0 l.toArray)(hb:aV<w.heap.size)(hl:l.length<4611686018427387904):
 Calls Tryz.prog 129 #[.slice (some ⟨aV,0,none⟩) l.length cap,.func (.func 130) #[] #[]] w fun e w'=>e= .returned (.tuple #[])∧∃n os,w'=Go.Sort.grow (Go.Sort.putRowK jY 2 (Go.Sort.ahead w n) aV 0 (fG l).toArray) os:=by
 have h:=Go.Proofs.AnyQ.slices_SortFunc_total Tryz.BG 2 Tryz.isAgg176 Tryz.sizeOf176 jY (fun _=>rfl) (fun x v hv=>by
  simp only[jY,List.mem_cons,List.not_mem_nil,or_false] at hv
  rcases hv with rfl|rfl<;>rfl) ee ⟨jE,fun _ _ _=>kU,fun _ _ _=>rj⟩ 130 #[] aV 0 cap l.toArray w (Go.Proofs.enters_of Tryz.func130 (by kernel_rfl) rfl) (PV _ _ _ _) hH hb hl (fun x y h1 h2=>Xi h1 h2)
 exact h
theorem V9(p:Option Addr)(cap:Nat)(w:World):Calls Tryz.prog 129 #[.slice p 0 cap,.func (.func 130) #[] #[]] w fun e w'=>e= .returned (.tuple #[])∧w'=w:=Go.Proofs.AnyF.slices_SortFunc_none Tryz.BG p cap _ w
theorem X1{ops:Array Oper}{rest:List Oper}{Q:Exit→St→Prop}{st:St}{dst:Option Tmp}{x:Operand}{tys:Array TypeId}{ty:TypeId}{pos:String}{after:Array Edge}{id cap:Nat}{l:List Nm}{sp:List AV}
 (hx:st.ev x= .mu id 2 0 l.length cap) (ho:st.own[id]?=some (some (l.map cQ++sp))) (hsz:l.length≤1000000)
 (h:aj E ops rest Q (St.put { st with own:=st.own.set id (some ((fG l).map cQ++sp)) } dst (.ax []))):
 aj E ops (⟨dst,.call ⟨.value (.func 129),#[x,.func 130],tys⟩,ty,pos,after,none⟩::rest) Q st:=
 aj.Uh jY 2 cQ (by decide) (fun _=>rfl) (fun _=>rfl) (fun x v hv=>by
  simp only[jY,List.mem_cons,List.not_mem_nil,or_false] at hv
  rcases hv with rfl|rfl<;>rfl) (by kernel_rfl) rfl rfl fG rG KC V9 hx ho hsz h
theorem mM{l:List Nm}{m i:Nat}{x:Nm}(h:l[i]?=some x):(l.map cQ++spare 2 m)[i]?=some (cQ x):=by
 rw[List.getElem?_append_left (by simpa using bI h),List.getElem?_map,h];rfl
theorem Rs{l:List Nm}{m i:Nat}{x:Nm}(h:i<l.length):(l.map cQ++spare 2 m).set i (cQ x)=(l.set i x).map cQ++spare 2 m:=by
 rw[List.set_append_left _ _ (by simpa using h),List.map_set]
theorem Ae{no nt m:Nat}{l:List Nm}:∀e∈l.map cQ++spare 2 m,∀z∈e.leaves,z.bF no nt=true:=lO (f:=cQ) (fun x z hz=>by
 simp only[AV.leaves,List.mem_cons,List.not_mem_nil,or_false] at hz
 rcases hz with rfl|rfl<;>rfl) _ rfl
theorem za{x y:Nm}(h:x.1=y.1→¬x.2=y.2):¬x=y:=fun e=>h (congrArg Prod.fst e) (congrArg Prod.snd e)
theorem xk{x y:Nm}(h:x.1=y.1∧x.2=y.2):x=y:=Prod.ext h.1 h.2
theorem DI{l:List Nm}{k:Nat}{x y:Nm}(hk:1≤k)(h:cG l k=l.take k)(hx:l[k]?=some x)(hy:l[k-1]?=some y)(hne:¬x=y):cG l (k+1)=l.take (k+1):=by
 rw[x7 (by omega) hx hy hne,h,cp hx]
theorem F1{l:List Nm}{k:Nat}(hk:l.length≤k)(hk2:k≤l.length)(h:cG l k=l.take k):ea l=l:=by
 have:k=l.length:=by omega
 subst this;unfold ea;rw[h,List.take_length]
theorem Xz{l:List Nm}{q:Nat}{x:Nm}(h:q<l.length):(l.set q x).take (q+1)=l.take q++[x]:=by
 rw[List.take_add_one,List.getElem?_set_self h,List.take_set_of_le (Nat.le_refl _)];rfl
set_option maxRecDepth 100000 in
theorem Kc{ops:Array Oper}{l0:List Oper}{Q:Exit→St→Prop}{tmps up:List AV}{gl:Nat→Option (List AV)}{own:List (Option (List AV))}{tk:List Nat}{dst:Option Tmp}{x0:Operand}{tys:Array TypeId}{ty:TypeId}{pos:String}{after:Array Edge}{id m N:Nat}{l:List Nm}
 (hx0:St.ev ⟨tmps,own,tk,gl,none,up⟩ x0= .mu id 2 0 N (N+m)) (ho:own[id]?=some (some (l.map cQ++spare 2 m))) (hbu:(tmps++up).all (AV.bF own.length tk.length)=true) (hbo:bm own own.length tk.length) (hl:N≤1000000) (hN:l.length=N)
 (hend:∀m':Nat,aj E ops l0 Q (St.put ⟨tmps,own.set id (some ((ea l).map cQ++spare 2 m')),tk,gl,none,up⟩ dst (.mu id 2 0 (ea l).length (N+m)))):
 aj E ops (⟨dst,.call ⟨.value (.func 133),#[x0],tys⟩,ty,pos,after,none⟩::l0) Q ⟨tmps,own,tk,gl,none,up⟩:=by
 have hid:=bE ho
 obtain⟨ow,how⟩:∃ow:List (Option (List AV)),own=ow.set id (some (l.map cQ++spare 2 m)):=⟨own,(mf ho).symm⟩
 subst how
 rw[List.length_set] at hid
 have hob:∀(d':List Nm),bm (ow.set id (some (d'.map cQ++spare 2 m))) ow.length tk.length:=fun d'=>by
  have:=hbo.set (id:=id) (Ae (l:=d') (m:=m));rwa[List.set_set,List.length_set] at this
 rw[List.length_set] at hbu
 simp only[List.set_set] at hend
 refine aj.call (caps:=[]) (rs:=[.tmp 2]) Tryz.func133 rfl Tryz.ntmps133 rfl (by kernel_rfl) rfl rfl ?_
 show aa E _ _ ⟨([St.ev _ x0]++[])++List.replicate (61-1) (.v undef),_,tk,gl,none,tmps++up⟩
 rw[hx0]
 have hBr:∀(tm:List AV) (m':Nat),tm[2]?=some (.mu id 2 0 (ea l).length (N+m))→bG E.P [.tmp 2] ⟨tmps,ow.set id (some (l.map cQ++spare 2 m)),tk,gl,none,up⟩ (fun s z=>aj E ops l0 Q (s.put dst z)) .ret ⟨tm,ow.set id (some ((ea l).map cQ++spare 2 m')),tk,gl,none,tmps++up⟩:=fun tm m' hu=>by
  refine⟨rfl,?_⟩
  have gu:∀ow,St.ev ⟨tm,ow,tk,gl,none,tmps++up⟩ (.tmp 2)= .mu id 2 0 (ea l).length (N+m):=fun ow=>by simp[St.ev,List.getD_eq_getElem?_getD,hu]
  show aj E ops l0 Q (St.put _ dst (gI [St.ev _ (.tmp 2)]))
  rw[gu]
  exact hend m'
 generalize bG E.P [.tmp 2] ⟨tmps,ow.set id (some (l.map cQ++spare 2 m)),tk,gl,none,up⟩ (fun s z=>aj E ops l0 Q (s.put dst z))=Q1 at hBr ⊢
 generalize tmps++up=up' at hbu hBr ⊢
 clear hend ho hbo hx0
 have hset:∀x,(ow.set id x)[id]?=some x:=fun x=>List.getElem?_set_self hid
 repeat'(first
 |refine aa.ab fun K hK=>?_
 |(
  refine aa.here 6 16 10 rfl ?_
  obtain⟨x,hx⟩:∃x,l[k]?=some x:=⟨_,List.getElem?_eq_getElem (by omega)⟩
  obtain⟨y,hy⟩:∃y,l[k-1]?=some y:=⟨_,List.getElem?_eq_getElem (by omega)⟩
  have w0:IntKind.i64.wrap ((k:Int)-1)=((k-1:Nat):Int):=by rw[aq (by omega) (by omega)];omega
  have f1:=mM (m:=m) hx
  have f2:=mM (m:=m) hy
  refine aa.bc [0,1,2,3,4,5,6,7,8,9] [] (by kernel_rfl) (by kernel_rfl) rfl ?_;simp only[go_sem,hset,List.set_set,List.length_set,w0,f1,f2,Int.toNat_natCast])
 |(
  refine aa.here 11 35 10 rfl ?_
  obtain⟨u,hu2⟩:∃x,l[k+k2]?=some x:=⟨_,List.getElem?_eq_getElem (by omega)⟩
  obtain⟨v,hv2⟩:∃x,l[k+k2-1]?=some x:=⟨_,List.getElem?_eq_getElem (by omega)⟩
  have hu3:=(g6 (k+k2) (by omega)).trans hu2
  have hv3:=(g6 (k+k2-1) (by omega)).trans hv2
  have w0:IntKind.i64.wrap ((k2:Int)-1)=((k2-1:Nat):Int):=by rw[aq (by omega) (by omega)];omega
  have f1:=mM (m:=m) hu3
  have f2:(r.map cQ++spare 2 m)[k+(k2-1)]?=some (cQ v):=by rw[show k+(k2-1)=k+k2-1 by omega];exact mM hv3
  refine aa.bc [0,1,2,3,4,5,6,7,8,9] [] (by kernel_rfl) (by kernel_rfl) rfl ?_;simp only[go_sem,hset,List.set_set,List.length_set,w0,f1,f2,Int.toNat_natCast])
 |(
  refine aa.here 12 45 8 rfl ?_
  have f3:(r.map cQ++spare 2 m).set q (cQ u)=(r.set q u).map cQ++spare 2 m:=Rs (by omega)
  obtain⟨z,hz⟩:∃z,r[q]?=some z:=⟨_,List.getElem?_eq_getElem (by omega)⟩
  have f4:=mM (m:=m) hz
  refine aa.region ?_;simp only[go_sem,hset,List.set_set,List.length_set,f1,f3,f4,Int.toNat_natCast])
 |(
  refine aa.here 13 52 3 rfl ?_
  have w0:IntKind.i64.wrap ((q:Int)+1)=((q+1:Nat):Int):=by rw[aq (by omega) (by omega)];omega
  refine aa.region ?_;simp only[go_sem,hset,List.set_set,List.length_set,w0])
 |(
  refine aa.here 10 33 3 rfl ?_
  have w0:IntKind.i64.wrap ((k2:Int)+1)=((k2+1:Nat):Int):=by rw[aq (by omega) (by omega)];omega
  refine aa.region ?_;simp only[go_sem,hset,List.set_set,List.length_set,w0])
 |(
  refine aa.here 7 26 4 rfl ?_
  refine aa.bq ?_
  refine aj.at 4 2 rfl ?_
  simp only[go_sem,hset,List.set_set,List.length_set]
  refine aj.j0 (e:=176) (k:=2) (l:=k) (by kernel_rfl) (by kernel_rfl) (by rfl) (by rfl) (by omega) (by omega) (by omega) ?_
  simp only[go_sem,hset,List.set_set,List.length_set]
  refine aj.of ?_
  simp only[go_sem,hset,List.set_set,List.length_set])
 |(
  refine aa.here 14 54 4 rfl ?_
  have hq:k+k2=N:=by omega
  have hcr:r.take q=ea l:=by rw[g5,hq];unfold ea;rw[hN]
  have hcl:(ea l).length=q:=by rw[←hcr,List.length_take];omega
  refine aa.bq ?_
  refine aj.at 4 2 rfl ?_
  simp only[go_sem,hset,List.set_set,List.length_set]
  refine aj.j0 (e:=176) (k:=2) (l:=q) (by kernel_rfl) (by kernel_rfl) (by rfl) (by rfl) (by omega) (by omega) (by omega) ?_
  simp only[go_sem,hset,List.set_set,List.length_set]
  refine aj.xm (e:=176) (k:=2) (n:=32) (cap:=N+m-q) (len:=N-q-1) (A:=(ea l).map cQ) (B:=(r.drop q).map cQ++spare 2 m) wR (by kernel_rfl) (by rw[List.length_map,hcl,show N-q-1+1=N-q by omega];rfl) (by rw[hset,←hcr,←List.append_assoc,←List.map_append,List.take_append_drop]) (by simp only[List.length_append,List.length_map,List.length_drop];omega) ?_
  simp only[go_sem,hset,List.set_set,List.length_set]
  refine aj.of ?_
  simp only[go_sem,hset,List.set_set,List.length_set])
 |(refine aa.region ?_;simp only[go_sem,hset,List.set_set,List.length_set])
 |(refine hK _ ?_;clear hK K)
 |refine aa.block ?_
 |refine aa.cond rfl (fun c=>?_) (fun c=>?_)<;>(try simp only[dD] at c)
 |refine aa.skip ?_
 |(refine aa.exit ?_;simp only[go_sem,hset,List.set_set,List.length_set])
 |((with_reducible refine And.intro ?_ ?_);(focus(first|omega|(simp;done)));(try simp only[hb,go_sem,hset,List.set_set,List.length_set]))
 |(
  refine aa.here 4 10 4 rfl ?_
  refine aa.cr (ι:=Nat) [2,4,5,10,11,12,13,14,15,16,17,18,19,20,21,22,23,24,25,26,27,28,29,30,31,32,33,34,35,36,37,38,39,40,41,42,43,44,45,46,47,48,49,50,51,52,53,54,55,56,57,58,59] (fun(k:Nat)=>[(3,i64 k)]) (fun(k:Nat)=>1≤k∧k≤N∧cG l k=l.take k) (fun(k:Nat)=>N-k) (1) ?_ ?_ ?_
  ·(try simp only[go_sem]);(try simp only[List.set_set,List.length_set]);(repeat'(first|assumption|exact bm.wk (hob _)|exact cY|exact .inr (decide_eq_true hid)|refine And.intro ?_ ?_));done
  ·exact⟨by omega,by omega,AW l⟩
  rintro k ⟨h1,h2,h3⟩
  simp only[go_sem,hset,List.set_set,List.length_set])
 |(
  refine aa.here 9 29 4 rfl ?_
  refine aa.b6 (ι:=Nat×Nat×List Nm) [29,30,31,32,33,34,35,36,37,38,39,40,41,42,43,44,45,46,47,48,49,50,51,52,53] (fun⟨k2,q,r⟩=>[(5,i64 k2),(3,i64 q)]) (fun⟨k2,q,r⟩=>ow.set id (some (r.map cQ++spare 2 m))) (fun⟨k2,q,r⟩=>tk) (fun⟨k2,q,r⟩=>1≤k2∧k+k2≤N∧q+1≤k+k2∧r.length=N∧r.take q=cG l (k+k2)∧(∀j,k+k2≤j+1→r[j]?=l[j]?)∧(cG l (k+k2)).length=q) (fun⟨k2,q,r⟩=>N-k2) ((1,k,l)) ?_ ?_ ?_
  ·(try simp only[go_sem]);(try simp only[List.set_set,List.length_set]);(repeat'(first|assumption|exact bm.wk (hob _)|exact cY|exact .inr (decide_eq_true hid)|refine And.intro ?_ ?_));done
  ·(have e1:=vE (by omega) hx hy (xk (by assumption));exact⟨by omega,by omega,by omega,hN,by rw[e1,h3],fun _ _=>rfl,by rw[e1,h3,List.length_take];omega⟩)
  rintro⟨k2,q,r⟩ ⟨g1,g2,g3,g4,g5,g6,g7⟩
  simp only[go_sem,hset,List.set_set,List.length_set])
 |(
  refine⟨k+1,?_,?_,?_⟩
  ·(try simp only[go_sem]);(try rw[aq (by omega) (by omega)]);(try simp only[List.set_set,List.length_set]);(repeat'(first|assumption|exact bm.wk (hob _)|exact cY|exact .inr (decide_eq_true hid)|refine And.intro ?_ ?_|exact .inr rfl));done
  ·exact⟨by omega,by omega,DI h1 h3 hx hy (za (by assumption))⟩
  ·(try simp only[]);omega)
 |(
  refine⟨(k2+1,q+1,r.set q u),?_,?_,?_⟩
  ·(try simp only[go_sem]);(try rw[aq (by omega) (by omega)]);(try simp only[List.set_set,List.length_set]);(repeat'(first|assumption|exact bm.wk (hob _)|exact cY|exact .inr (decide_eq_true hid)|refine And.intro ?_ ?_));done
  ·(try dsimp only);(have e1:=x7 (l:=l) (i:=k+k2) (by omega) hu2 hv2 (za (by assumption));exact⟨by omega,by omega,by omega,by rw[List.length_set];exact g4,by rw[show k+(k2+1)=k+k2+1 by omega,e1,←g5];exact Xz (by omega),fun j hj=>by rw[List.getElem?_set_ne (by omega)];exact g6 j (by omega),by rw[show k+(k2+1)=k+k2+1 by omega,e1,List.length_append,g7];rfl⟩)
  ·(try simp only[]);omega)
 |(
  refine⟨(k2+1,q,r),?_,?_,?_⟩
  ·(try simp only[go_sem]);(try rw[aq (by omega) (by omega)]);(try simp only[List.set_set,List.length_set]);(repeat'(first|assumption|exact bm.wk (hob _)|exact cY|exact .inr (decide_eq_true hid)|refine And.intro ?_ ?_));done
  ·(try dsimp only);(have e1:=vE (l:=l) (i:=k+k2) (by omega) hu2 hv2 (xk (by assumption));exact⟨by omega,by omega,by omega,g4,by rw[show k+(k2+1)=k+k2+1 by omega,e1];exact g5,fun j hj=>g6 j (by omega),by rw[show k+(k2+1)=k+k2+1 by omega,e1];exact g7⟩)
  ·(try simp only[]);omega)
 |(
  first
  |(refine aa.ret ?_
    (try simp only[fU,fJ])
    (try simp only[List.set_set])
    have e1:=NW (show l.length<2 by omega)
    have e2:=hBr
    rw[e1,hN] at e2
    exact e2 _ _ rfl)
  |(refine aa.ret ?_
    (try simp only[fU,fJ])
    (try simp only[List.set_set])
    have e1:=F1 (by omega) (by omega) h3
    have e2:=hBr
    rw[e1,hN] at e2
    exact e2 _ _ rfl)
  |(refine aa.ret ?_
    (try simp only[fU,fJ])
    (try simp only[List.set_set])
    have e2:=hBr
    rw[hcl] at e2
    exact e2 _ _ rfl))
 |refine aa.fin (by assumption) ?_)
theorem sz{no nt m:Nat}{l:List Nm}:∀es,some (l.map cQ++spare 2 m)=some es→∀e∈es,∀z∈e.leaves,z.bF no nt=true:=lO fun x z hz=>by
 simp only[AV.leaves,List.mem_cons,List.not_mem_nil,or_false] at hz
 rcases hz with rfl|rfl<;>rfl
theorem Dv{l:List Nm}{m:Nat}:(l.map cQ++spare 2 m).take l.length=l.map cQ:=List.take_left' (by simp)
theorem ID{l:List Nm}{a s:Bs}:l.map cQ++[.agg [str a,str s]]=(l++[(a,s)]).map cQ:=by simp
@[go_sem] theorem Yo{σ:Nat→Option Nat}{l:List Nm}{m:Nat}:(l.map cQ++spare 2 m).map (AV.b7 σ)=l.map cQ++spare 2 m:=qx fun _=>rfl
theorem x9(bk:Bk)(ho:bk.af.length≤9223372036854775807)(hf:bk.ai.length≤1000000)(hi:bk.ids.length≤9223372036854775807):ae E 56 [dn bk] (fun r t=>r=eb (cm bk)∧t=[]):=by
 have hnlen:(dS bk).length=bk.ai.length:=List.length_map _
 have hcl:=Bi (fG (dS bk))
 rw[rG] at hcl
 refine ae.av (n:=48) (rs:=[.tmp 2]) Tryz.func56 rfl Tryz.ntmps56 rfl ?_
 repeat'(first
 |refine aa.ab fun K hK=>?_
 |(
  refine aa.here 6 17 4 rfl ?_
  obtain⟨f,hb⟩:∃f,bk.ai[i]?=some f:=⟨_,List.getElem?_eq_getElem (by omega)⟩
  refine aa.region ?_;simp only[go_sem])
 |(
  refine aa.here 8 27 2 rfl ?_
  rw[Dv,ID]
  refine aa.ik [0,3] (by decide) rfl rfl ?_
  simp only[go_sem]
  refine aa.region ?_;simp only[go_sem])
 |(
  refine aa.here 13 35 4 rfl ?_
  obtain⟨n,hn⟩:∃n,(ea (fG (dS bk)))[j]?=some n:=⟨_,List.getElem?_eq_getElem (by omega)⟩
  have f1:=mM (m:=m') hn
  refine aa.region ?_;simp only[go_sem,f1,Int.toNat_natCast])
 |(
  refine aa.here 9 28 2 rfl ?_
  have hnl:nl=dS bk:=by rw[h4,List.take_of_length_le (by omega)];rfl
  rw[hnl]
  refine aa.bq ?_
  refine aj.at 2 1 rfl ?_
  simp only[go_sem]
  (repeat(refine⟨⟨_,rfl⟩,?_⟩))
  refine X1 (id:=1) (l:=dS bk) (by rfl) (by rfl) (by omega) ?_
  simp only[go_sem]
  refine aj.of ?_
  simp only[go_sem])
 |(
  refine aa.here 11 30 4 rfl ?_
  refine aa.bq ?_
  refine aj.at 4 1 rfl ?_
  simp only[go_sem]
  refine Kc (id:=1) (m:=m) (N:=(dS bk).length) (l:=fG (dS bk)) (by rfl) (by rfl) (by(rfl)) (by(repeat'(first|exact bm.nil|refine bm.cons ?_ ?_))<;>(intro es h;first|(cases h;exact Ae)|(cases h;simp[AV.leaves,AV.bF,AV.dY,AV.cU]))) (by omega) (rG _) ?_
  intro m'
  simp only[go_sem]
  refine aj.of ?_
  simp only[go_sem]
  (repeat(refine⟨⟨_,rfl⟩,?_⟩)))
 |(refine aa.region ?_;simp only[go_sem])
 |(refine hK _ ?_;clear hK K)
 |refine aa.block ?_
 |refine aa.cond rfl (fun c=>?_) (fun c=>?_)<;>(try simp only[dD] at c)
 |refine aa.skip ?_
 |(refine aa.exit ?_;simp only[go_sem])
 |(refine ah.one (mE bk ho (by omega) hi) (by kernel_rfl) rfl ?_;simp only[go_sem])
 |(refine ah.one (Kk bk n.1 n.2 ho (by omega) hi) (by kernel_rfl) rfl ?_;simp only[go_sem])
 |(refine aG.bA (by assumption) ?_;(try simp only[go_sem]))
 |((with_reducible refine And.intro ?_ ?_);(focus(first|omega|(simp;done)|(simp[cA];done)));(try simp only[hb,go_sem]))
 |(
  refine aa.here 5 16 1 rfl ?_
  refine aa.sS 3 2 rfl ?_
  simp only[go_sem]
  refine aa.b6 (ι:=Nat×List Nm×Nat) [5,16,17,18,19,20,21,22,23,24,25,26,27] (fun⟨i,nl,m⟩=>[(15,i64 i),(3,.mu 1 2 0 nl.length (nl.length+m))]) (fun⟨i,nl,m⟩=>[some [.agg [aR bk.af,bZ bk.ai,.sl none 1 (bk.ids.map str),i64 bk.clock,i64 bk.bad]],some (nl.map cQ++spare 2 m)]) (fun⟨i,nl,m⟩=>[]) (fun⟨i,nl,m⟩=>i≤bk.ai.length∧nl=(bk.ai.take i).map fun f=>(f.acc,f.sym)) (fun⟨i,nl,m⟩=>bk.ai.length-i) ((0,[],0)) ?_ ?_ ?_
  ·(try simp only[go_sem]);(repeat'(first|refine And.intro ?_ ?_|exact .inr (aM rfl)|exact .inr ⟨rfl,aM rfl⟩));done
  ·exact⟨by omega,rfl⟩
  rintro⟨i,nl,m⟩ ⟨h3,h4⟩
  simp only[go_sem]
  have hll:nl.length=i:=by rw[h4,List.length_map,List.length_take];omega)
 |(
  refine aa.here 12 34 1 rfl ?_
  refine aa.fb 6 5 rfl ?_
  simp only[go_sem]
  refine aa.b6 (ι:=Nat×List Po) [8,34,35,36,37,38,39,40,41,42,43,44,45,46] (fun⟨j,out⟩=>[(33,i64 j),(6,.sl (some 0) 5 (out.map bD))]) (fun⟨j,out⟩=>[some [.agg [aR bk.af,bZ bk.ai,.sl none 1 (bk.ids.map str),i64 bk.clock,i64 bk.bad]],some ((ea (fG (dS bk))).map cQ++spare 2 m')]) (fun⟨j,out⟩=>[out.length]) (fun⟨j,out⟩=>j≤(ea (fG (dS bk))).length∧out=((ea (fG (dS bk))).take j).map fun n=>cz bk n.1 n.2) (fun⟨j,out⟩=>(ea (fG (dS bk))).length-j) ((0,[])) ?_ ?_ ?_
  ·(try simp only[go_sem]);(repeat'(first|exact .inr sz|refine And.intro ?_ ?_|exact .inr (aM rfl)));done
  ·exact⟨by omega,rfl⟩
  rintro⟨j,out⟩ ⟨g1,g2⟩
  simp only[go_sem]
  have hol:out.length=j:=by rw[g2,List.length_map,List.length_take];omega)
 |(
  refine⟨(i+1,nl++[(f.acc,f.sym)],mm),?_,⟨by show i+1≤_;omega,by show nl++[(f.acc,f.sym)]=(bk.ai.take (i+1)).map _;rw[h4,cp hb];simp⟩,by show bk.ai.length-(i+1)<bk.ai.length-i;omega⟩
  (try simp only[go_sem]);(try rw[aq (by omega) (by omega)]);(try simp only[List.length_append,List.length_singleton]);(repeat'(first|exact .inr sz|refine And.intro ?_ ?_|exact .inr rfl|exact .inr (aM rfl)));done)
 |(
  refine⟨(j+1,out++[cz bk n.1 n.2]),?_,⟨by show j+1≤_;omega,by show out++[cz bk n.1 n.2]=(List.take (j+1) _).map _;rw[g2,cp hn];simp⟩,by show _-(j+1)<_-j;omega⟩
  (try simp only[go_sem]);(try rw[aq (by omega) (by omega)]);(try simp only[List.map_append,List.map_cons,List.map_nil,List.length_append,List.length_singleton]);(repeat'(first|exact .inr sz|refine And.intro ?_ ?_|exact .inr rfl|exact .inr (aM rfl)|(simp;done)));done)
 |(
  refine aa.ret ?_
  refine az.is ?_;simp only[go_sem,aB,aE,aF,aA,aC,aD]<;>(first|(unfold cm;rw[if_neg (by simp_all)];(exact trivial))|(unfold cm;rw[if_pos (by assumption),g2,List.take_of_length_le (by omega)];done)))
 |(refine fun(mm:Nat)=>?_;simp only[go_sem])
 |refine aa.fin (by assumption) ?_)
theorem px{l:List Od}{id:Bs}(h:bN l id<0):jQ l id=false:=by
 have h2:=qw h
 unfold hasB at h2;unfold jQ
 rw[List.any_eq_false] at h2 ⊢
 intro x hx
 have:=h2 x hx
 simp at this;simp[this]
theorem Xu{id:Bs}{n:Nat}{o:Od}{b:Bk}(hb:aQ b=true)(hp:bS b.af id=some n)(ho:b.af[n]?=some o):jQ b.af id=o.bg:=by
 have hr:aU b.af=true:=by
  simp only[aQ,fC,Bool.and_eq_true] at hb;exact hb.1.1.1.1.1.1.1.1.1
 have hnd:=(jw.1 hr).2.2
 obtain⟨o2,h1,h2,_⟩:=mJ hp
 rw[ho] at h1;cases h1
 unfold jQ
 cases hb:o.bg with
 |true=>exact List.any_eq_true.2 ⟨o,List.mem_of_getElem? ho,by simp[h2,hb]⟩
 |false=>
  rw[List.any_eq_false]
  intro x hx hc
  simp only[Bool.and_eq_true,decide_eq_true_eq] at hc
  obtain⟨j,hj⟩:=List.mem_iff_getElem?.1 hx
  have hjl:j<(b.af.map (·.id)).length:=by rw[List.length_map];exact bI hj
  have e:(b.af.map (·.id))[j]?=(b.af.map (·.id))[n]?:=by rw[List.getElem?_map,List.getElem?_map,hj,ho];simp[hc.1,h2]
  have:=(List.getElem?_inj hjl hnd).1 e
  subst this
  rw[ho] at hj;cases hj
  rw[hb] at hc;exact absurd hc.2 (by simp)
theorem yD{v:Vn}{now:Int}{id:Bs}(h:aQ v.book=true∧aU v.ar=true∧v.book.af.length+v.ar.length≤64∧0≤v.last∧v.last≤now∧∀o∈v.ar,o.bg=true∧hasB v.book.af o.id=false):jQ v.ar id=hasB v.ar id:=by
 unfold jQ hasB
 have:∀o∈v.ar,(decide (o.id=id)&&o.bg)=decide (o.id=id):=fun o ho=>by rw[(h.2.2.2.2.2 o ho).1,Bool.and_true]
 exact Bool.eq_iff_iff.2 (by simp only[List.any_eq_true];exact⟨fun⟨o,ho,e⟩=>⟨o,ho,by rw[←this o ho];exact e⟩,fun⟨o,ho,e⟩=>⟨o,ho,by rw[this o ho];exact e⟩⟩)
theorem td{g:Gt}(h:bf g=true):g.ak.length≤4:=by
 simp only[bf,Bool.and_eq_true,decide_eq_true_eq] at h;exact h.1.1.1.1.2
def iv(g:Gt):List Po:=if bf g then(dv (g.ak.map fun v=>cm v.book)).1 else[]
theorem po{ls:List (List Po)}(h:¬(dv ls).2=0):(dv ls).1=[]:=by
 unfold dv at h ⊢
 split at h
 ·simp at h
 ·rename_i h2;rw[if_neg h2]
theorem vF{l:List Vn}{i:Nat}{v:Vn}(h:l[i]?=some v):((l.take (i+1)).map fun v=>cm v.book)=((l.take i).map fun v=>cm v.book)++[cm v.book]:=by
 rw[List.take_add_one,h];simp
theorem wG{α:Type}{m:Nat}:∀{l:List (List α)},(∀x∈l,x.length≤m)→l.flatten.length≤m*l.length
 |[],_=>by simp
 |a::l,h=>by
  have h1:=h a (by simp)
  have h2:=wG (l:=l) (fun x hx=>h x (by simp[hx]))
  simp only[List.flatten_cons,List.length_append,List.length_cons,Nat.mul_add,Nat.mul_one];omega
theorem sP{g:Gt}(h:bf g=true):(g.ak.map fun v=>cm v.book).flatten.length≤1000000:=by
 have h4:=td h
 have:=wG (m:=256) (l:=g.ak.map fun v=>cm v.book) (fun x hx=>by
  obtain⟨v,hv,rfl⟩:=List.mem_map.1 hx
  have h1:=vY v.book
  have h2:v.book.ai.length≤256:=by
   simp only[bf,Bool.and_eq_true,List.all_eq_true] at h
   have h3:=h.2 v hv
   simp only[dg,aQ,fC,Bool.and_eq_true,decide_eq_true_eq] at h3
   omega
  omega)
 rw[List.length_map] at this
 omega
attribute [local irreducible] cm dv
theorem Yu(g:Gt)(n:Int)(id:Bs)(hg:iH g)(hlm:dP g.aP):ae E 50 [aL g,i64 n,str id] (fun r t=>r= .ax [bl (nz g n id).1,i64 (nz g n id).2]∧t=[]):=by
 have hg1:=hg.1
 have hg2:=hg.2.1
 refine ae.av (n:=44) (rs:=[.tmp 6,.tmp 7]) Tryz.func50 rfl Tryz.ntmps50 rfl ?_
 repeat'(first
 |refine aa.ab fun K hK=>?_
 |(
  refine aa.here 3 15 7 rfl ?_
  have hat:ba g n=true:=by assumption
  obtain⟨k,v,rfl,hx⟩:=gw (by assumption)
  have hv:=hg.2.2 v (List.mem_of_getElem? hx)
  have hn:=bI hx
  have hrv:=iB (ju hat hx)
  refine aa.region ?_;simp only[go_sem])
 |(refine aa.region ?_;simp only[go_sem])
 |(refine aa.here 4 20 11 rfl ?_;refine aa.bc [0,1,2,3,5,6,7,4,8,9,10] [] (by kernel_rfl) (by kernel_rfl) rfl ?_;simp only[go_sem])
 |(refine hK _ ?_;clear hK K)
 |refine aa.cond rfl (fun c=>?_) (fun c=>?_)<;>(try simp only[dD] at c)
 |refine aa.skip ?_
 |(refine ah.one (k9 g n hg hlm) (by kernel_rfl) rfl ?_;simp only[go_sem])
 |(refine ah.one (fK v.book.af id hv.1) (by kernel_rfl) rfl ?_;simp only[go_sem])
 |(refine ah.one (fK v.ar id hv.2.2.2) (by kernel_rfl) rfl ?_;simp only[go_sem])
 |(refine aH.bY (fun h=>?_) (fun h=>?_)<;>simp only[h,go_sem]<;>(try simp only[dD] at h))
 |(refine aH.split (fun h=>?_) (fun h=>?_)<;>simp only[h,go_sem]<;>(try simp only[dD] at h))
 |(refine aG.bA (by assumption) ?_;(try simp only[go_sem]))
 |((first|refine aG.nth ?_ (fun b hb=>?_)|with_reducible refine And.intro ?_ ?_);(focus(omega));(try simp only[hb,go_sem]))
 |(
  refine aa.ret ?_
  refine az.is ?_;simp only[go_sem,aB,aE,aF,aA,aC,aD]<;>(first|(rw[Sk (by assumption)];exact⟨rfl,rfl⟩)|(rw[A0 hat hx,px (by omega),yD hrv,←na];(simp;done))|(rw[A0 hat hx,Xu hrv.1 hpf hoo,yD hrv,←na];(simp[*];done))))
 |(obtain⟨m,o,hp,hpf,hoo,hn2⟩:=lk (l:=v.book.af) (id:=id) (by omega);simp only[hp,hoo,go_sem,Int.toNat_natCast]))
theorem JY(g:Gt)(a s:Bs)(hg:bO g)(hlm:dP g.aP):ae E 53 [aL g,str a,str s] (fun r t=>r=wV (if bf g then jo g a s else(0,0))∧t=[]):=by
 have hgi:=hg.fit
 have hg1:=hg.1
 refine ae.av (n:=63) (rs:=[.cell 6 45]) Tryz.func53 rfl Tryz.ntmps53 rfl ?_
 repeat'(first
 |refine aa.ab fun K hK=>?_
 |(
  refine aa.here 5 22 11 rfl ?_
  obtain⟨v,hx⟩:∃v,g.ak[i]?=some v:=⟨_,List.getElem?_eq_getElem (by omega)⟩
  have hv:=hgi.2.2 v (List.mem_of_getElem? hx)
  refine aa.region ?_;simp only[go_sem])
 |(refine aa.region ?_;simp only[go_sem])
 |(refine hK _ ?_;clear hK K)
 |refine aa.block ?_
 |refine aa.cond rfl (fun c=>?_) (fun c=>?_)<;>first|exact Bool.noConfusion c|(try simp only[dD] at c)
 |refine aa.skip ?_
 |(refine aa.exit ?_;simp only[go_sem])
 |(refine ah.one (RI v.book a s (by have:=(hg.2.2 v (List.mem_of_getElem? hx)).1;omega) (by have:=(hg.2.2 v (List.mem_of_getElem? hx)).2.1;omega) (by have:=(hg.2.2 v (List.mem_of_getElem? hx)).2.2.1;omega)) (by kernel_rfl) rfl ?_;simp only[go_sem])
 |(refine ah.one (Sm v.ar a s hv.2.2.2) (by kernel_rfl) rfl ?_;simp only[go_sem])
 |(refine ah.one (mL g hgi hlm) (by kernel_rfl) rfl ?_;simp only[go_sem])
 |(refine aH.split (fun h=>?_) (fun h=>?_)<;>simp only[h,go_sem]<;>(try simp only[dD] at h))
 |(refine aG.bA (by assumption) ?_;(try simp only[go_sem]))
 |((with_reducible refine And.intro ?_ ?_);(focus((simp;done)));(try simp only[hb,go_sem]))
 |(
  refine aa.here 3 11 9 rfl ?_
  refine aa.b6 (ι:=Nat) [9,10,11,12,13,14,15,16,17,18,19,20,21,22,23,24,25,26,27,28,29,30,31,32,33,34,35,36,37,38,39,40,41,42,43,44,45,46,47,48,49,50,51,52,53,54,55,56,57] (fun(i:Nat)=>[(8,i64 i)]) (fun(i:Nat)=>[some [.agg [eD g.ak,bL g.aP,bl g.kill,i64 g.now,i64 g.pat]],some [.agg [i64 0,i64 0]],some [.agg [i64 (gE g.ak a s i).1,i64 (gE g.ak a s i).2]]]) (fun(i:Nat)=>[]) (fun(i:Nat)=>i≤g.ak.length∧i≤4) (fun(i:Nat)=>g.ak.length-i) (0) ?_ ?_ ?_
  ·(try simp only[go_sem]);(repeat'(first|refine And.intro ?_ ?_|trivial|exact .inr (aM rfl)|exact .inr ⟨rfl,aM rfl⟩));done
  ·exact⟨by omega,by omega⟩
  rintro i ⟨h1,h2⟩
  simp only[go_sem])
 |(
  refine⟨i+1,?_,⟨by omega,by omega⟩,by omega⟩
  rw[wC hx]
  (try simp only[go_sem,ec]);(try rw[aq (x:=(i:Int)+1) (by omega) (by omega)]);(repeat'(first|refine And.intro ?_ ?_|exact .inr rfl|trivial|exact .inr (aM rfl)));done)
 |(
  refine aa.ret ?_
  refine az.is ?_;simp only[go_sem,aB,aE,aF,aA,aC,aD]<;>(first|(rw[if_neg (by rw[show bf g=false by assumption];simp)];(exact⟨rfl,rfl⟩))|(exfalso;have h4:=td (show bf g=true by assumption);omega)|(have hr:bf g=true:=(by assumption);have h4:=td hr;rw[if_pos hr,show jo g a s=gE g.ak a s i from(xC (by omega)).symm];(exact⟨rfl,rfl⟩))))
 |refine aa.fin (by assumption) ?_)
theorem OR(g:Gt)(hg:bO g)(hlm:dP g.aP):ae E 47 [aL g] (fun r t=>r=eb (iv g)∧t=[]):=by
 have hgi:=hg.fit
 have hg1:=hg.1
 refine ae.av (n:=33) (rs:=[.tmp 2]) Tryz.func47 rfl Tryz.ntmps47 rfl ?_
 repeat'(first
 |refine aa.ab fun K hK=>?_
 |(
  refine aa.here 7 17 11 rfl ?_
  obtain⟨v,hx⟩:∃v,g.ak[i]?=some v:=⟨_,List.getElem?_eq_getElem (by omega)⟩
  refine aa.region ?_;simp only[go_sem,htl])
 |(
  refine aa.here 8 28 7 rfl ?_
  have hi4:g.ak.length≤i:=by omega
  rw[List.take_of_length_le hi4]
  refine aa.region ?_;simp only[go_sem])
 |(refine aa.region ?_;simp only[go_sem])
 |(refine hK _ ?_;clear hK K)
 |refine aa.block ?_
 |refine aa.cond rfl (fun c=>?_) (fun c=>?_)<;>(try simp only[dD] at c)
 |refine aa.skip ?_
 |(refine aa.exit ?_;simp only[go_sem])
 |(refine ah.one (mL g hgi hlm) (by kernel_rfl) rfl ?_;simp only[go_sem])
 |(refine ah.one (DE v.book (by have:=(hg.2.2 v (List.mem_of_getElem? hx)).1;omega) (by have:=(hg.2.2 v (List.mem_of_getElem? hx)).2.1;omega) (by have:=(hg.2.2 v (List.mem_of_getElem? hx)).2.2.1;omega)) (by kernel_rfl) rfl ?_;simp only[go_sem])
 |(refine ah.one (CK (g.ak.map fun v=>cm v.book) (by simp;omega) (sP (by assumption))) (by kernel_rfl) rfl ?_;simp only[go_sem])
 |(refine aG.bA (by assumption) ?_;(try simp only[go_sem]))
 |((with_reducible refine And.intro ?_ ?_);(focus(first|omega|(simp;done)));(try simp only[hb,go_sem]))
 |(
  refine aa.here 5 10 5 rfl ?_
  refine aa.fb 3 1 rfl ?_
  simp only[go_sem]
  refine aa.b6 (ι:=Nat) [10,11,12,13,14,15,16,17,18,19,20,21,22,23,24,25,26] (fun(i:Nat)=>[(4,i64 i),(3,.sl (some 0) 1 (((g.ak.take i).map fun v=>cm v.book).map fun x=>AV.sl none 5 (x.map bD)))]) (fun(i:Nat)=>[some [.agg [eD g.ak,bL g.aP,bl g.kill,i64 g.now,i64 g.pat]]]) (fun(i:Nat)=>[i]) (fun(i:Nat)=>i≤g.ak.length∧(g.ak.take i).length=i) (fun(i:Nat)=>g.ak.length-i) (0) ?_ ?_ ?_
  ·(try simp only[go_sem]);(try simp only[List.take_zero,List.map_nil]);(repeat'(exact .inr (aM rfl)));done
  ·exact⟨by omega,by simp⟩
  rintro i ⟨h1,htl⟩
  simp only[go_sem]
  (try simp only[htl]))
 |(
  refine⟨i+1,?_,?_,?_⟩
  ·(try simp only[go_sem]);(try rw[aq (by omega) (by omega)]);(try simp only[go_sem,vF hx,List.map_append,List.map_cons,List.map_nil]);(try rw[aq (by omega) (by omega)]);(repeat'(first|exact htl.symm|refine And.intro ?_ ?_|exact .inr rfl|exact .inr (aM rfl)));done
  ·exact⟨by omega,by rw[List.length_take];omega⟩
  ·(try simp only[]);omega)
 |(
  refine aa.ret ?_
  refine az.is ?_;simp only[go_sem,aB,aE,aF,aA,aC,aD]<;>(first|(unfold iv;rw[if_neg (by rw[show bf g=false by assumption];simp)];(exact trivial))|(unfold iv;rw[if_pos (by assumption)];(done))))
 |(refine And.intro (congrArg some htl.symm) ?_)
 |refine aa.fin (by assumption) ?_)
theorem Vw(g:Gt)(hg:bO g):ae E 46 [aL g] (fun r t=>r=eb (iv g)∧t=[]):=by
 have hgi:=hg.fit
 have hg1:=hg.1
 refine ae.av (n:=33) (rs:=[.tmp 2]) Tryz.func46 rfl Tryz.ntmps46 rfl ?_
 repeat'(first
 |refine aa.ab fun K hK=>?_
 |(
  refine aa.here 6 16 4 rfl ?_
  obtain⟨v,hx⟩:∃v,g.ak[i]?=some v:=⟨_,List.getElem?_eq_getElem (by omega)⟩
  refine aa.region ?_;simp only[go_sem])
 |(
  refine aa.here 7 18 7 rfl ?_
  refine aa.region ?_;simp only[go_sem,htl])
 |(
  refine aa.here 9 26 7 rfl ?_
  have hi4:g.ak.length≤i:=by omega
  rw[List.take_of_length_le hi4]
  refine aa.region ?_;simp only[go_sem])
 |(refine aa.region ?_;simp only[go_sem])
 |(refine hK _ ?_;clear hK K)
 |refine aa.block ?_
 |refine aa.cond rfl (fun c=>?_) (fun c=>?_)<;>(try simp only[dD] at c)
 |refine aa.skip ?_
 |(refine aa.exit ?_;simp only[go_sem])
 |(refine ah.one (mC g hgi) (by kernel_rfl) rfl ?_;simp only[go_sem])
 |(refine ah.one (x9 v.book (by have:=(hg.2.2 v (List.mem_of_getElem? hx)).1;omega) (by have:=(hg.2.2 v (List.mem_of_getElem? hx)).2.1;omega) (by have:=(hg.2.2 v (List.mem_of_getElem? hx)).2.2.1;omega)) (by kernel_rfl) rfl ?_;simp only[go_sem])
 |(refine ah.one (Pb (g.ak.map fun v=>cm v.book) (by simp;omega) (sP (by assumption))) (by kernel_rfl) rfl ?_;simp only[go_sem])
 |(refine aG.bA (by assumption) ?_;(try simp only[go_sem]))
 |((with_reducible refine And.intro ?_ ?_);(focus(first|omega|(simp;done)));(try simp only[hb,go_sem]))
 |(
  refine aa.here 5 15 1 rfl ?_
  refine aa.fb 3 1 rfl ?_
  simp only[go_sem]
  refine aa.b6 (ι:=Nat) [5,15,16,17,18,19,20,21,22,23,24] (fun(i:Nat)=>[(14,i64 i),(3,.sl (some 0) 1 (((g.ak.take i).map fun v=>cm v.book).map fun x=>AV.sl none 5 (x.map bD)))]) (fun(i:Nat)=>[some [.agg [eD g.ak,bL g.aP,bl g.kill,i64 g.now,i64 g.pat]]]) (fun(i:Nat)=>[i]) (fun(i:Nat)=>i≤g.ak.length∧(g.ak.take i).length=i) (fun(i:Nat)=>g.ak.length-i) (0) ?_ ?_ ?_
  ·(try simp only[go_sem]);(try simp only[List.take_zero,List.map_nil]);(repeat'(exact .inr (aM rfl)));done
  ·exact⟨by omega,by simp⟩
  rintro i ⟨h1,htl⟩
  simp only[go_sem]
  (try simp only[htl]))
 |(
  refine⟨i+1,?_,?_,?_⟩
  ·(try simp only[go_sem]);(try rw[aq (by omega) (by omega)]);(try simp only[go_sem,vF hx,List.map_append,List.map_cons,List.map_nil]);(try rw[aq (by omega) (by omega)]);(repeat'(first|exact htl.symm|refine And.intro ?_ ?_|exact .inr rfl|exact .inr (aM rfl)));done
  ·exact⟨by omega,by rw[List.length_take];omega⟩
  ·(try simp only[]);omega)
 |(
  refine aa.ret ?_
  refine az.is ?_;simp only[go_sem,aB,aE,aF,aA,aC,aD]<;>(first|(unfold iv;rw[if_neg (by rw[show bf g=false by assumption];simp)];(exact trivial))|(unfold iv;rw[if_pos (by assumption)];(done))|(unfold iv;rw[if_pos (by assumption),po (by assumption)];(exact trivial))))
 |(refine And.intro (congrArg some htl.symm) ?_)
 |refine aa.fin (by assumption) ?_)
theorem tM(bk:Bk)(x:Ex)(hx:hP x)(ho:bk.af.length≤9223372036854775807)(hf:bk.ai.length≤9223372036854775807)(hi:bk.ids.length≤9223372036854775807):ae E 176 [dn bk,an x] (fun r t=>r= .ax [dn (aY bk x).1,i64 (aY bk x).2]∧t=[]):=by
 refine ae.av (n:=55) (rs:=[.cell 4 26,.tmp 5]) Tryz.func176 rfl Tryz.ntmps176 rfl ?_
 repeat'(first
 |refine aa.ab fun K hK=>?_
 |(
  refine aa.here 3 17 9 rfl ?_
  have hrt:=JU (bk:=bk) (x:=x) (by assumption) (by assumption)
  refine aa.region ?_;simp only[go_sem])
 |(refine aa.region ?_;simp only[go_sem])
 |(refine aa.here 7 34 10 rfl ?_;refine aa.gD (.take 1 (.take 2 (.take 4 (.take 5 (.fork (.alt 0 (.fork (.alt 3 (.take 6 (.take 7 (.take 8 (.take 9 .done)))) (.alt 6 (.take 3 (.take 7 (.take 8 (.take 9 .done)))) .ends))) (.alt 6 (.take 0 (.take 3 (.take 7 (.take 8 (.take 9 .done))))) .ends))))))) [[],[],[1],[0,1,2],[],[4],[4,5],[0,1,2,3,4,5,6],[0,1,2,3,4,5,6,7],[0,1,2,3,4,5,6,7,8]] [] (by kernel_rfl) (by kernel_rfl) ?_;simp only[go_sem])
 |(refine hK _ ?_;clear hK K)
 |refine aa.cond rfl (fun c=>?_) (fun c=>?_)<;>first|exact Bool.noConfusion c|(try simp only[dD] at c)
 |refine aa.skip ?_
 |(refine ah.one (qJ bk ho hf hi) (by kernel_rfl) rfl ?_;simp only[go_sem])
 |(refine ah.one (CR _ (by assumption)) (by kernel_rfl) rfl ?_;simp only[go_sem])
 |(refine ah.one (xw bk.ids x.id (by omega)) (by kernel_rfl) rfl ?_;simp only[go_sem])
 |((try simp only[Te]);refine ah.one (Dl ⟨bk.af,bk.ai,bk.ids++[x.id],bk.clock,bk.bad⟩ x hrt.1 hrt.2.1 hrt.2.2.1 hrt.2.2.2.1) (by kernel_rfl) rfl ?_;simp only[go_sem])
 |(refine aH.split (fun h=>?_) (fun h=>?_)<;>simp only[h,go_sem]<;>(try simp only[dD] at h))
 |((with_reducible refine And.intro ?_ ?_);(focus(first|omega|(simp;done)));(try simp only[hb,go_sem]))
 |(
  refine aa.ret ?_
  refine az.is ?_;simp only[go_sem,aB,aE,aF,aA,aC,aD]<;>(first
  |(rw[BV (.inl (by assumption))];simp;done)
  |(rw[BV (.inr (by assumption))];simp;done)
  |(rw[o7 (by assumption) (by assumption),zm (.inl (by assumption))];simp;done)
  |(rw[o7 (by assumption) (by assumption),zm (.inr (by omega))];simp;done)
  |(rw[o7 (by assumption) (by assumption),NL (by omega) (by assumption)];simp;done)
  |(rw[o7 (by assumption) (by assumption),MI hrt.1 hrt.2.2.2.2 (by omega) (by assumption) (by assumption)];simp;done)
  |(rw[o7 (by assumption) (by assumption),EV hrt.1 hrt.2.2.2.2 (by omega) (by assumption) (by assumption)];simp;done)))
 |(refine And.intro ?_ ?_))
def jr(o:Od)(q:Int):Od:=⟨o.id,o.acc,o.sym,o.au,q,o.aw,o.done,o.bg⟩
def iL(g:Gt)(k:Nat)(v:Vn)(o:Od)(q:Int):Gt×Int×Int:=if ez v o.id then(g,0,7) else if df g v (jr o q)≠0 then(g,df g v (jr o q),0) else(cf g k (eP v o),0,0)
theorem rX{g:Gt}{n:Int}(h:ba g n=true):bf g=true:=by simp only[ba,Bool.and_eq_true] at h;exact h.2
section
variable{g:Gt}{k:Nat}{v:Vn}{o:Od}{q:Int}
theorem xp(h:0≤bN v.book.af o.id∨0≤bN v.ar o.id):iL g k v o q=(g,0,7):=by
 have:ez v o.id=true:=by unfold ez;rw[←na,←na];simpa using h
 unfold iL;rw[if_pos this]
theorem BC(h1:bN v.book.af o.id<0)(h2:bN v.ar o.id<0):ez v o.id=false:=by unfold ez;rw[qw h1,qw h2];rfl
theorem si(h1:bN v.book.af o.id<0)(h2:bN v.ar o.id<0)(h:¬df g v (jr o q)=0):iL g k v o q=(g,df g v (jr o q),0):=by
 unfold iL;rw[BC h1 h2,if_neg (by simp),if_pos h]
theorem Oh(h1:bN v.book.af o.id<0)(h2:bN v.ar o.id<0)(h:df g v (jr o q)=0):iL g k v o q=(cf g k (eP v o),0,0):=by
 unfold iL;rw[BC h1 h2,if_neg (by simp),if_neg (by simp[h])]
theorem xZ(h:g.kill=true):df g v (jr o q)=8:=by unfold df;rw[h];rfl
theorem xq(h:g.kill=false)(h2:¬fg v g.now g.pat=0):df g v (jr o q)=16+fg v g.now g.pat:=by unfold df;rw[h,if_neg (by simp),if_pos h2]
theorem sE(h:g.kill=false)(h2:fg v g.now g.pat=0):df g v (jr o q)=mz g.aP (jr o q) (jo g o.acc o.sym):=by unfold df;rw[h,if_neg (by simp),if_neg (by simp[h2])];rfl
theorem NV{n:Nat}(h:ba g (n:Int)=true)(hm:bn (dB o)=true)(hx:g.ak[n]?=some v):eC g (n:Int) o=iL g n v (dB o) o.al:=by rw[pv h hm hx];rfl
section
variable{old id:Bs}{p:Int}{m:Nat}(hat:ba g (k:Int)=true)(hx:g.ak[k]?=some v)(hb:aQ v.book=true)
include hat hx hb
theorem zO:aU v.book.af=true:=by simp only[aQ,fC,Bool.and_eq_true] at hb;exact hb.1.1.1.1.1.1.1.1.1
theorem Xw(h:bN v.book.af old<0):eh g (k:Int) old id q p=(g,0,6):=by
 have hf:(findF v.book.af old).2=false:=by
  unfold findF;rw[zO hat hx hb]
  unfold bN at h
  cases hp:bS v.book.af old with
  |none=>rfl
  |some n=>rw[hp] at h;exact absurd h (by simp only;omega)
 rw[jZ hat hx,if_pos (.inl hf)]
theorem sF(hp:bS v.book.af old=some m)(ho:v.book.af[m]?=some o):findF v.book.af old=(o,true):=by
 unfold findF;rw[zO hat hx hb,hp];simp[List.getD_eq_getElem?_getD,ho]
theorem Gu(hp:bS v.book.af old=some m)(ho:v.book.af[m]?=some o)(h:o.bg=false):eh g (k:Int) old id q p=(g,0,6):=by
 rw[jZ hat hx,sF hat hx hb hp ho,if_pos (.inr h)]
theorem H0(hp:bS v.book.af old=some m)(ho:v.book.af[m]?=some o)(h:o.bg=true)(hm:bn (eE o id q p)=false):eh g (k:Int) old id q p=(g,0,1):=by
 rw[jZ hat hx,sF hat hx hb hp ho,if_neg (by simp[h]),if_pos hm]
theorem TA(hp:bS v.book.af old=some m)(ho:v.book.af[m]?=some o)(h:o.bg=true)(hm:bn (eE o id q p)=true):eh g (k:Int) old id q p=iL g k v (eE o id q p) (q-o.done):=by
 rw[jZ hat hx,sF hat hx hb hp ho,if_neg (by simp[h]),if_neg (by simp[hm])]
 have e:df g v (kx o id q p)=df g v (jr (eE o id q p) (q-o.done)):=rfl
 unfold iL;rw[←e];rfl
end
end
theorem DY(g:Gt)(k:Nat)(v:Vn)(o:Od)(hk:k<g.ak.length)(hl:g.ak.length≤1000000):ae E 177 [aL g,i64 (k:Int),.agg [aR v.book.af,bZ v.book.ai,.sl none 1 (v.book.ids.map str),i64 v.book.clock,i64 v.book.bad,.sl none 8 (v.ar.map aW++[aW o]),i64 v.last,bl v.br]] (fun r t=>r=aL (cf g k (eP v o))∧t=[]):=by
 have h:=j9 g k (eP v o) hk hl
 have e:(.agg [aR v.book.af,bZ v.book.ai,.sl none 1 (v.book.ids.map str),i64 v.book.clock,i64 v.book.bad,.sl none 8 (v.ar.map aW++[aW o]),i64 v.last,bl v.br]:AV)=aN (eP v o):=by simp[eP]
 rw[e]
 exact h
theorem yg(g:Gt)(k:Nat)(v:Vn)(o:Od)(q:Int)(hg:bO g)(hlm:dP g.aP)(hx:g.ak[k]?=some v)(hat:ba g (k:Int)=true):ae E 175 [aL g,i64 (k:Int),aW o,i64 q] (fun r t=>r= .ax [aL (iL g k v o q).1,i64 (iL g k v o q).2.1,i64 (iL g k v o q).2.2]∧t=[]):=by
 have hgi:=hg.fit
 have hg1:=hg.1
 have hg2:=hgi.2.1
 have hv:=hgi.2.2 v (List.mem_of_getElem? hx)
 have hn:=bI hx
 have hsm:=sC hat hx
 have hr:=rX hat
 have hst:=sV v g.now g.pat
 have hw16:IntKind.i64.wrap (16+fg v g.now g.pat)=16+fg v g.now g.pat:=aq (by omega) (by omega)
 refine ae.av (n:=76) (rs:=[.cell 8 58,.tmp 9,.tmp 10]) Tryz.func175 rfl Tryz.ntmps175 rfl ?_
 repeat'(first
 |refine aa.ab fun K hK=>?_
 |(refine aa.region ?_;simp only[go_sem,hw16,hr,if_true])
 |(refine aa.here 11 50 11 rfl ?_;refine aa.bc [0,1,2,3,4,5,6,7,8,9,10] [] (by kernel_rfl) (by kernel_rfl) rfl ?_;simp only[go_sem,hw16,hr,if_true])
 |(refine aa.here 14 64 9 rfl ?_;refine aa.gD (.take 1 (.take 2 (.take 4 (.fork (.alt 0 (.fork (.alt 3 (.take 5 (.take 6 (.take 7 (.take 8 .done)))) (.alt 5 (.take 3 (.take 6 (.take 7 (.take 8 .done)))) .ends))) (.alt 5 (.take 0 (.take 3 (.take 6 (.take 7 (.take 8 .done))))) .ends)))))) [[],[],[1],[0,1,2],[],[4],[0,1,2,3,4,5],[0,1,2,3,4,5,6],[0,1,2,3,4,5,6,7]] [] (by kernel_rfl) (by kernel_rfl) ?_;simp only[go_sem,hw16,hr,if_true])
 |(refine hK _ ?_;clear hK K)
 |refine aa.cond rfl (fun c=>?_) (fun c=>?_)<;>first|exact Bool.noConfusion c|(try simp only[dD] at c)
 |refine aa.skip ?_
 |(refine ah.one (fK v.book.af o.id hv.1) (by kernel_rfl) rfl ?_;simp only[go_sem,hw16,hr,if_true])
 |(refine ah.one (fK v.ar o.id hv.2.2.2) (by kernel_rfl) rfl ?_;simp only[go_sem,hw16,hr,if_true])
 |(refine ah.one (RQ g k v hx hsm) (by kernel_rfl) rfl ?_;simp only[go_sem,hw16,hr,if_true])
 |(refine ah.one (JY g o.acc o.sym hg hlm) (by kernel_rfl) rfl ?_;simp only[go_sem,hw16,hr,if_true])
 |(refine ah.one (L8 g.aP (jr o q) (jo g o.acc o.sym) hg2 hlm) (by kernel_rfl) rfl ?_;simp only[go_sem,hw16,hr,if_true])
 |(refine ah.one (DY g k v o hn hg1) (by kernel_rfl) rfl ?_;simp only[go_sem,hw16,hr,if_true])
 |(refine aH.bY (fun h=>?_) (fun h=>?_)<;>simp only[h,go_sem,hw16,hr,if_true]<;>(try simp only[dD] at h))
 |(refine aG.bA (by assumption) ?_;(try simp only[go_sem,hw16,hr,if_true]))
 |((with_reducible refine And.intro ?_ ?_);(focus(omega));(try simp only[hb,go_sem,hw16,hr,if_true]))
 |(
  refine aa.ret ?_
  refine az.is ?_;simp only[go_sem,aB,aE,aF,aA,aC,aD]<;>(try((first|(rw[xp (.inl (by omega))];(exact⟨⟨rfl,rfl,rfl,rfl,rfl⟩,rfl,rfl⟩))|(rw[xp (.inr (by omega))];(exact⟨⟨rfl,rfl,rfl,rfl,rfl⟩,rfl,rfl⟩))|(rw[si (by omega) (by omega) (by rw[xZ (by assumption)];decide),xZ (by assumption)];(exact⟨⟨rfl,rfl,rfl,rfl,rfl⟩,rfl,rfl⟩))|(rw[si (by omega) (by omega) (by rw[xq (by assumption) (by assumption)];omega),xq (by assumption) (by assumption)];(exact⟨⟨rfl,rfl,rfl,rfl,rfl⟩,rfl,rfl⟩))|(rw[si (by omega) (by omega) (by rw[sE (by assumption) (by assumption)];assumption),sE (by assumption) (by assumption)];(exact⟨⟨rfl,rfl,rfl,rfl,rfl⟩,rfl,rfl⟩))|(rw[Oh (by omega) (by omega) (by rw[sE (by assumption) (by assumption)];assumption)];(exact⟨⟨rfl,rfl,rfl,rfl,rfl⟩,rfl,rfl⟩))))))
 |(refine And.intro ?_ ?_))
theorem Mj(g:Gt)(n:Int)(o:Od)(hg:bO g)(hlm:dP g.aP):ae E 112 [aL g,i64 n,aW o] (fun r t=>r= .ax [aL (eC g n o).1,i64 (eC g n o).2.1,i64 (eC g n o).2.2]∧t=[]):=by
 have hgi:=hg.fit
 refine ae.av (n:=30) (rs:=[.cell 6 58,.tmp 7,.tmp 8]) Tryz.func112 rfl Tryz.ntmps112 rfl ?_
 repeat'(first
 |refine aa.ab fun K hK=>?_
 |(
  refine aa.here 5 21 12 rfl ?_
  obtain⟨k,v,rfl,hx⟩:=gw (by assumption)
  have hv:=hg.2.2 v (List.mem_of_getElem? hx)
  have hn:=bI hx
  refine aa.region ?_;simp only[go_sem])
 |(refine aa.region ?_;simp only[go_sem])
 |(refine hK _ ?_;clear hK K)
 |refine aa.cond rfl (fun c=>?_) (fun c=>?_)<;>first|exact Bool.noConfusion c|(try simp only[dD] at c)
 |refine aa.skip ?_
 |(refine ah.one (k9 g n hgi hlm) (by kernel_rfl) rfl ?_;simp only[go_sem])
 |(refine ah.one (oi (dB o)) (by kernel_rfl) rfl ?_;simp only[go_sem])
 |(refine ah.one (yg g k v (dB o) o.al hg hlm hx (by assumption)) (by kernel_rfl) rfl ?_;simp only[go_sem])
 |(refine aH.split (fun h=>?_) (fun h=>?_)<;>simp only[h,go_sem]<;>(try simp only[dD] at h))
 |(
  refine aa.ret ?_
  refine az.is ?_;simp only[go_sem,aB,aE,aF,aA,aC,aD]<;>(try((first|(rw[tA (by assumption)];(exact⟨⟨rfl,rfl,rfl,rfl,rfl⟩,rfl,rfl⟩))|(rw[vg (by assumption)];(exact⟨⟨rfl,rfl,rfl,rfl,rfl⟩,rfl,rfl⟩))|(rw[NV (by assumption) (by assumption) hx];(exact⟨⟨rfl,rfl,rfl,rfl,rfl⟩,rfl,rfl⟩)))))))
theorem Vl(g:Gt)(n:Int)(old id:Bs)(q p:Int)(hg:bO g)(hlm:dP g.aP):ae E 113 [aL g,i64 n,str old,str id,i64 q,i64 p] (fun r t=>r= .ax [aL (eh g n old id q p).1,i64 (eh g n old id q p).2.1,i64 (eh g n old id q p).2.2]∧t=[]):=by
 have hgi:=hg.fit
 refine ae.av (n:=69) (rs:=[.cell 12 58,.tmp 13,.tmp 14]) Tryz.func113 rfl Tryz.ntmps113 rfl ?_
 repeat'(first
 |refine aa.ab fun K hK=>?_
 |(
  refine aa.here 3 23 8 rfl ?_
  have hat:ba g n=true:=(by assumption)
  obtain⟨k,v,rfl,hx⟩:=gw (by assumption)
  have hv:=hg.2.2 v (List.mem_of_getElem? hx)
  have hn:=bI hx
  have hrv:=iB (ju hat hx)
  refine aa.region ?_;simp only[go_sem])
 |(
  refine aa.here 13 58 14 rfl ?_
  have hmb:=Ao (show bn (eE o id q p)=true by assumption)
  simp only[eE] at hmb
  have hw:IntKind.i64.wrap (q-o.done)=q-o.done:=aq (by omega) (by omega)
  refine aa.region ?_;simp only[go_sem,hw])
 |(refine aa.region ?_;simp only[go_sem])
 |(refine hK _ ?_;clear hK K)
 |refine aa.cond rfl (fun c=>?_) (fun c=>?_)<;>first|exact Bool.noConfusion c|(try simp only[dD] at c)
 |refine aa.skip ?_
 |(refine ah.one (k9 g n hgi hlm) (by kernel_rfl) rfl ?_;simp only[go_sem])
 |(refine ah.one (fK v.book.af old hv.fit.1) (by kernel_rfl) rfl ?_;simp only[go_sem])
 |(refine ah.one (oi (eE o id q p)) (by kernel_rfl) rfl ?_;simp only[go_sem])
 |(refine ah.one (yg g k v (eE o id q p) (q-o.done) hg hlm hx hat) (by kernel_rfl) rfl ?_;simp only[go_sem])
 |(refine aH.bY (fun h=>?_) (fun h=>?_)<;>simp only[h,go_sem]<;>(try simp only[dD] at h))
 |(refine aG.bA (by assumption) ?_;(try simp only[go_sem]))
 |((first|refine aG.nth ?_ (fun b hb=>?_)|with_reducible refine And.intro ?_ ?_);(focus(omega));(try simp only[hb,go_sem]))
 |(
  refine aa.ret ?_
  refine az.is ?_;simp only[go_sem,aB,aE,aF,aA,aC,aD]<;>(try((first|(rw[uj (by assumption)];(exact⟨⟨rfl,rfl,rfl,rfl,rfl⟩,rfl,rfl⟩))|(rw[Xw hat hx hrv.1 (by omega)];(exact⟨⟨rfl,rfl,rfl,rfl,rfl⟩,rfl,rfl⟩))|(rw[Gu hat hx hrv.1 hpf hoo (by assumption)];(exact⟨⟨rfl,rfl,rfl,rfl,rfl⟩,rfl,rfl⟩))|(rw[H0 hat hx hrv.1 hpf hoo (by assumption) (by assumption)];(exact⟨⟨rfl,rfl,rfl,rfl,rfl⟩,rfl,rfl⟩))|(rw[TA hat hx hrv.1 hpf hoo (by assumption) (by assumption)];(exact⟨⟨rfl,rfl,rfl,rfl,rfl⟩,rfl,rfl⟩))))))
 |(obtain⟨m,o,hp,hpf,hoo,hn2⟩:=lk (l:=v.book.af) (id:=old) (by omega);simp only[hp,hoo,go_sem,Int.toNat_natCast]))
theorem VH{im:Im}{k:Nat}{cs:List AV}{v:Value}(h:a8 im (.agg (.aK::cs)) v):a8 im (.agg (.sl none k []::cs)) v:=by
 cases h with
 |agg _ vs hn h=>
  refine .agg _ vs hn (fun i c u hc hu=>?_)
  cases i with
  |zero=>cases hc;exact(h 0 .aK u rfl hu).of_nil
  |succ i=>exact h (i+1) c u hc hu
theorem HE(bk:Bk)(ho:bk.af=[])(hf:bk.ai.length≤1000000)(hi:bk.ids.length≤9223372036854775807):ae E 56 [.agg [.aK,bZ bk.ai,.sl none 1 (bk.ids.map str),i64 bk.clock,i64 bk.bad]] (fun r t=>r=eb (cm bk)∧t=[]):=by
 obtain⟨od,fl,ids,cl,bad⟩:=bk
 simp only at ho
 subst ho
 intro w im vs h0 hg h1 h2
 refine x9 _ (by simp) hf hi w im vs h0 hg h1 ?_
 obtain⟨hn,hp⟩:=h2
 refine⟨hn,fun i x v hx hv=>?_⟩
 rcases i with _|i
 ·cases hx
  exact VH (k:=8) (hp 0 _ v rfl hv)
 ·simp at hx
def jF(a d:List Po):Bool:=decide (a.length=d.length)&&(List.zipWith (fun x y:Po=>decide (x.acc=y.acc)&&decide (x.sym=y.sym)&&decide (x.al=y.al)&&decide (x.value=y.value)&&decide (x.over=y.over)) a d).all id
theorem LM{x y:Po}:(decide (x.acc=y.acc)&&decide (x.sym=y.sym)&&decide (x.al=y.al)&&decide (x.value=y.value)&&decide (x.over=y.over))=true↔x=y:=by
 cases x;cases y;simp[and_assoc]
theorem qb:∀{a d:List Po},jF a d=true↔a=d
 |[],[]=>by simp[jF]
 |[],y::d=>by simp[jF]
 |x::a,[]=>by simp[jF]
 |x::a,y::d=>by
  have ih:=qb (a:=a) (d:=d)
  unfold jF at *
  simp only[List.length_cons,List.zipWith_cons_cons,List.all_cons,id,Bool.and_eq_true,decide_eq_true_eq,Nat.add_right_cancel_iff,List.cons.injEq] at *
  rw[←ih]
  have:=LM (x:=x) (y:=y)
  simp only[Bool.and_eq_true,decide_eq_true_eq] at this
  rw[←this]
  exact⟨fun h=>⟨h.2.1,h.1,h.2.2⟩,fun h=>⟨h.2.1,h.1,h.2.2⟩⟩
theorem Hx{a d:List Po}(h:¬a.length=d.length):jF a d=false:=by unfold jF;rw[decide_eq_false h];rfl
theorem SD{a d:List Po}{i:Nat}{x y:Po}(hx:a[i]?=some x)(hy:d[i]?=some y)(h:¬x=y):jF a d=false:=by
 cases e:jF a d with
 |false=>rfl
 |true=>
  have:=qb.1 e
  subst this;rw[hx] at hy;exact absurd (Option.some.inj hy) h
theorem FH{a d:List Po}{i:Nat}(hi:a.length≤i)(h:a.length=d.length)(h2:a.take i=d.take i):jF a d=true:=by
 rw[List.take_of_length_le hi,List.take_of_length_le (by omega)] at h2
 exact qb.2 h2
theorem Xx{x y:Po}(h:x.acc=y.acc→x.sym=y.sym→x.al=y.al→x.value=y.value→¬x.over=y.over):¬x=y:=fun e=>by subst e;exact h rfl rfl rfl rfl rfl
theorem NF{x y:Po}(h:x.acc=y.acc∧x.sym=y.sym∧x.al=y.al∧x.value=y.value∧x.over=y.over):x=y:=by
 cases x;cases y;simp at h;simp[h]
theorem ES(bk:Bk)(ho:bk.af.length≤1000000)(hf:bk.ai.length≤1000000)(hi:bk.ids.length≤1000000):ae E 54 [dn bk] (fun r t=>r=dn bk∧t=[]):=by
 refine ae.av (n:=16) (rs:=[.cell 2 26]) Tryz.func54 rfl Tryz.ntmps54 rfl ?_
 repeat'(first
 |refine aa.ab fun K hK=>?_
 |(refine aa.region ?_;simp only[go_sem])
 |(refine hK _ ?_;clear hK K)
 |(refine ah.one (eV bk.af ho) (by kernel_rfl) rfl ?_;simp only[go_sem])
 |(refine ah.one (jK bk.ai hf) (by kernel_rfl) rfl ?_;simp only[go_sem])
 |(refine ah.one (jU bk.ids hi) (by kernel_rfl) rfl ?_;simp only[go_sem])
 |(
  refine aa.ret ?_
  refine az.is ?_;simp only[go_sem,aB,aE,aF,aA,aC,aD]<;>(first|fail)))
theorem MV(bk:Bk)(f:Dn)(ho:bk.af.length≤1000000)(hf:bk.ai.length≤1000000)(hi:bk.ids.length≤1000000):ae E 55 [dn bk,bQ f] (fun r t=>r=bl (aQ bk&&cu bk f)∧t=[]):=by
 refine ae.av (n:=12) (rs:=[.tmp 4]) Tryz.func55 rfl Tryz.ntmps55 rfl ?_
 repeat'(first
 |refine aa.ab fun K hK=>?_
 |(refine aa.region ?_;simp only[go_sem])
 |(refine hK _ ?_;clear hK K)
 |(refine ah.one (mE bk (by omega) (by omega) (by omega)) (by kernel_rfl) rfl ?_;simp only[go_sem])
 |(refine ah.one (A3 bk f) (by kernel_rfl) rfl ?_;simp only[go_sem])
 |(refine aH.split (fun h=>?_) (fun h=>?_)<;>simp only[h,go_sem]<;>(try simp only[dD] at h))
 |(
  refine aa.ret ?_
  refine az.is ?_;simp only[go_sem,aB,aE,aF,aA,aC,aD]<;>((simp_all;done))))
theorem WY(bk:Bk)(f:Dn)(ho:bk.af.length≤1000000)(hf:bk.ai.length≤1000000)(hi:bk.ids.length≤1000000)(hr:aQ bk=true):ae E 55 [dn bk,bQ f] (fun r t=>r=bl (cu bk f)∧t=[]):=by
 have h:=MV bk f ho hf hi
 rwa[hr,Bool.true_and] at h
theorem Zd(bk:Bk)(ho:bk.af.length≤1000000)(hf:bk.ai.length≤1000000)(hi:bk.ids.length≤1000000):ae E 13 [dn bk] (fun r t=>r= .ax [dn (kM bk).1,eb (kM bk).2.1,i64 (kM bk).2.2]∧t=[]):=by
 refine ae.av (n:=50) (rs:=[.cell 2 26,.tmp 3,.tmp 4]) Tryz.func13 rfl Tryz.ntmps13 rfl ?_
 repeat'(first
 |refine aa.ab fun K hK=>?_
 |(
  refine aa.here 7 22 4 rfl ?_
  obtain⟨f,hb⟩:∃f,bk.ai[i]?=some f:=⟨_,List.getElem?_eq_getElem (by omega)⟩
  refine aa.region ?_;simp only[go_sem])
 |(
  refine aa.here 12 36 8 rfl ?_
  have e1:fs=nC bk:=by rw[h2,List.take_of_length_le (by omega)];rfl
  have e2:rs=qh bk:=by rw[h3,List.take_of_length_le (by omega)];rfl
  rw[e1,e2]
  refine aa.region ?_;simp only[go_sem])
 |(refine aa.region ?_;simp only[go_sem])
 |(refine hK _ ?_;clear hK K)
 |refine aa.block ?_
 |refine aa.cond rfl (fun c=>?_) (fun c=>?_)<;>(try simp only[dD] at c)
 |refine aa.skip ?_
 |(refine aa.exit ?_;simp only[go_sem])
 |(refine ah.one (ES bk ho hf hi) (by kernel_rfl) rfl ?_;simp only[go_sem])
 |(refine ah.one (mE bk (by omega) (by omega) (by omega)) (by kernel_rfl) rfl ?_;simp only[go_sem])
 |(refine ah.one (WY bk f ho hf hi hrb) (by kernel_rfl) rfl ?_;simp only[go_sem])
 |(refine ah.one (HE (eX bk) rfl (by have:=List.length_filter_le (fun f=>cu bk f) bk.ai;simp only[eX,nC];omega) (by simp only[eX];omega)) (by kernel_rfl) rfl ?_;simp only[go_sem])
 |(refine ah.one (WQ (cm (eX bk)) (by have:=vY (eX bk);have:=List.length_filter_le (fun f=>cu bk f) bk.ai;simp only[eX,nC] at *;omega)) (by kernel_rfl) rfl ?_;simp only[go_sem])
 |(refine aG.bA (by assumption) ?_;(try simp only[go_sem]))
 |((with_reducible refine And.intro ?_ ?_);(focus(first|omega|(simp;done)));(try simp only[hb,go_sem]))
 |(
  refine aa.here 6 21 1 rfl ?_
  refine aa.fb 6 9 rfl ?_
  refine aa.fb 7 9 rfl ?_
  simp only[go_sem]
  refine aa.b6 (ι:=Nat×List Dn×List Dn) [9,21,22,23,24,25,26,27,28,29,30,31,32,33,34,35] (fun⟨i,fs,rs⟩=>[(20,i64 i),(6,.sl (some 0) 9 (fs.map bQ)),(7,.sl (some 1) 9 (rs.map bQ))]) (fun⟨i,fs,rs⟩=>[some [.agg [aR bk.af,bZ bk.ai,.sl none 1 (bk.ids.map str),i64 bk.clock,i64 bk.bad]],some [.agg [.aK,.aK,.aK,i64 0,i64 0]],some [.agg [aR bk.af,bZ bk.ai,.sl none 1 (bk.ids.map str),i64 bk.clock,i64 bk.bad]]]) (fun⟨i,fs,rs⟩=>[fs.length,rs.length]) (fun⟨i,fs,rs⟩=>i≤bk.ai.length∧fs=(bk.ai.take i).filter (fun f=>cu bk f)∧rs=(bk.ai.take i).filter (fun f=>!cu bk f)) (fun⟨i,fs,rs⟩=>bk.ai.length-i) ((0,[],[])) ?_ ?_ ?_
  ·(try simp only[go_sem]);(repeat'(first|refine And.intro ?_ ?_|trivial|exact .inr (aM rfl)));done
  ·exact⟨by omega,rfl,rfl⟩
  rintro⟨i,fs,rs⟩ ⟨h1,h2,h3⟩
  simp only[go_sem]
  have hrb:aQ bk=true:=by assumption
  have hfl:fs.length≤i:=by rw[h2];exact Nat.le_trans (List.length_filter_le _ _) (by rw[List.length_take];omega)
  have hrl:rs.length≤i:=by rw[h3];exact Nat.le_trans (List.length_filter_le _ _) (by rw[List.length_take];omega))
 |(
  first
  |(refine⟨(i+1,fs++[f],rs),?_,⟨by show i+1≤_;omega,by show fs++[f]=_;rw[h2];exact(Bt hb (by assumption)).symm,by show rs=_;rw[h3];exact(zf hb (by simp_all)).symm⟩,by show bk.ai.length-(i+1)<bk.ai.length-i;omega⟩
    (try simp only[go_sem]);(try rw[aq (by omega) (by omega)]);(repeat'(first|refine And.intro ?_ ?_|exact .inr rfl|trivial|exact .inr (aM rfl)|(simp;done)));done)
  |(refine⟨(i+1,fs,rs++[f]),?_,⟨by show i+1≤_;omega,by show fs=_;rw[h2];exact(zf hb (by assumption)).symm,by show rs++[f]=_;rw[h3];exact(Bt hb (by simp_all)).symm⟩,by show bk.ai.length-(i+1)<bk.ai.length-i;omega⟩
    (try simp only[go_sem]);(try rw[aq (by omega) (by omega)]);(repeat'(first|refine And.intro ?_ ?_|exact .inr rfl|trivial|exact .inr (aM rfl)|(simp;done)));done))
 |(
  refine aa.ret ?_
  refine az.is ?_;simp only[go_sem,aB,aE,aF,aA,aC,aD]<;>(first|(rw[O8 (by assumption)];(exact⟨⟨rfl,rfl,rfl,rfl,rfl⟩,trivial,rfl⟩))|(rw[Pd hrb (by assumption)];(exact⟨⟨rfl,rfl,rfl,rfl,rfl⟩,trivial,rfl⟩))|(rw[My hrb (by assumption)];(exact⟨⟨rfl,rfl,rfl,rfl,rfl⟩,rfl,rfl⟩))))
 |refine aa.fin (by assumption) ?_)
theorem NZ(a d:List Po)(ha:a.length≤1000000)(hd:d.length≤1000000):ae E 16 [eb a,eb d] (fun r t=>r=bl (jF a d)∧t=[]):=by
 refine ae.av (n:=26) (rs:=[.tmp 4]) Tryz.func16 rfl Tryz.ntmps16 rfl ?_
 repeat'(first
 |refine aa.ab fun K hK=>?_
 |(
  refine aa.here 6 17 9 rfl ?_
  obtain⟨x,hx⟩:∃x,a[i]?=some x:=⟨_,List.getElem?_eq_getElem (by omega)⟩
  obtain⟨y,hy⟩:∃y,d[i]?=some y:=⟨_,List.getElem?_eq_getElem (by omega)⟩
  refine aa.bc [0,1,2,3,4,5,6,7,8] [] (by kernel_rfl) (by kernel_rfl) rfl ?_;simp only[go_sem])
 |(refine aa.region ?_;simp only[go_sem])
 |(refine hK _ ?_;clear hK K)
 |refine aa.block ?_
 |refine aa.cond rfl (fun c=>?_) (fun c=>?_)<;>(try simp only[dD] at c)
 |refine aa.skip ?_
 |(refine aa.exit ?_;simp only[go_sem])
 |(refine aG.bA (by assumption) ?_;(try simp only[go_sem]))
 |((with_reducible refine And.intro ?_ ?_);(focus((simp;done)));(try simp only[hb,go_sem]))
 |(
  refine aa.here 4 11 4 rfl ?_
  refine aa.cr (ι:=Nat) [4,11,12,13,14,15,16,17,18,19,20,21,22,23,24,25] (fun(i:Nat)=>[(5,i64 i)]) (fun(i:Nat)=>i≤a.length∧a.length=d.length∧a.take i=d.take i) (fun(i:Nat)=>a.length-i) (0) ?_ ?_ ?_
  ·(try simp only[go_sem]);(repeat'(first|fail));done
  ·exact⟨by omega,by omega,rfl⟩
  rintro i ⟨h1,h2,h3⟩
  simp only[go_sem])
 |(
  refine⟨i+1,?_,?_,?_⟩
  ·(try simp only[go_sem]);(try rw[aq (by omega) (by omega)]);(repeat'(exact .inr rfl));done
  ·exact⟨by omega,h2,by rw[cp hx,cp hy,h3,show x=y from NF (by assumption)]⟩
  ·(try simp only[]);omega)
 |(
  refine aa.ret ?_
  refine az.is ?_;simp only[go_sem,aB,aE,aF,aA,aC,aD]<;>(first|(rw[Hx (by omega)];done)|(rw[SD hx hy (Xx (by assumption))];done)|(rw[FH (by omega) h2 h3];done)))
 |refine aa.fin (by assumption) ?_)
end Go.Proofs.YtajeeghgiilhiaaGreat
end
