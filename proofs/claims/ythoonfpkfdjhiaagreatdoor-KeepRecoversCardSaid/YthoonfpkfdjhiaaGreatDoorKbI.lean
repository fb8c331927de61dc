/- Texts of one chain, put together (Lr, Ls, Lh, Lt, C0, Cr, Lp, C1, C2, C3, Lk, C4, C5, C6). -/
import Derived.Test.YthoonfpkfdjhiaaGreatDoorKbH
import Derived.Test.YthoonfpkfdjhiaaGreatDoorKbG
import Derived.Test.YthoonfpkfdjhiaaGreatDoorProg
import Derived.Tactics
import Derived.Tactics2
import Derived.Defers
import Derived.Laws.Pointers
import Derived.Laws.LoneSync
import Derived.RegionTactic
import Derived.RegionCalls
import Derived.ChangeAlike
import Derived.KernelRfl
import Derived.Laws.MakeOwn
import Derived.Test.YthoonfpkfdjhiaaGreatDoorKbA
set_option linter.unusedVariables false
set_option linter.unusedSimpArgs false
set_option maxHeartbeats 16000000
set_option maxRecDepth 8000
section
namespace Go.az
open Go Go.RowKit
theorem Vh{P:Program}{o:Oper}{a:Act}{w:World}{K K':Act→World→Prop}{Q Q':Exit→Act→World→Prop}(h:∀a w,K a w→K' a w)(hp:∀c a w,Q (.panic c) a w→Q' (.panic c) a w)(hl:LetsOut Q→LetsOut Q')
 (hh:o.wp P a w K Q):o.wp P a w K' Q':=by
 unfold Oper.wp at *
 generalize (execOp a.eval o).run P w=r at *
 cases r with
 |ok n w'=>
  cases n<;>simp only[Oper.upon] at hh ⊢ <;>
   first
    |exact h _ _ hh
    |exact Calls.mono hh (fun e w'' he=>by cases e<;>first|exact h _ _ he|exact hp _ _ _ he|exact hl he)
    |exact Rows.mono hh (fun _ _ he=>h _ _ he)
 |halt x w'=>cases x<;>simp only[Oper.upon] at hh ⊢ <;>first|exact hp _ _ _ hh|exact hh
def bc(E:Env)(ops:Array Oper)(o:Oper)(s s':St):Prop:=∀Q:Exit→St→Prop,Q .normal s'→al E ops [o] Q s
theorem bc.list{E:Env}{ops:Array Oper}{o:Oper}{s s':St}(h:cJ E ops [o] s fun z=>z=s'):bc E ops o s s':=fun Q hQ=>by
 obtain⟨q,hq,h1,h2⟩:=h
 refine al.of ⟨q,hq,fun e=>oZ (h1 e) fun z hz=>?_,fun e=>?_⟩
 ·have hz:z=s':=hz
  subst hz;exact hQ
 ·have hz:s.put o.dst (.v undef)=s':=h2 e
  show Q .normal _
  rw[hz];exact hQ
theorem bc.call{E:Env}{ops:Array Oper}{o:Oper}{s s':St}(h:∀Q:Exit→St→Prop,al E ops [] Q s'→al E ops [o] Q s):bc E ops o s s':=fun Q hQ=>h Q (al.of hQ)
def cR:List (Option Tmp)→Nat→Tmp→Option Nat
 |[],_,_=>none
 |d::r,i,t=>if d=some t then some i else cR r (i+1) t
def gy(ds:List (Option Tmp))(vals:List AV)(L:Nat→Bool)(t:Nat)(x:AV):AV:=match cR ds 0 t with|some i=>if L i then vals.getD i .any else x|none=>x
def qE(ds:List (Option Tmp))(vals:List AV)(anc:List (List Nat))(i:Nat)(st:St)(t:Tmp):AV:=match cR ds 0 t with|some j=>if(anc.getD i []).contains j then vals.getD j .any else st.tmps.getD t .any|none=>st.tmps.getD t .any
def jg(L:Nat→Bool)(i:Nat):Nat→Bool:=fun j=>if j=i then true else L j
def ew(ds:List (Option Tmp))(vals:List AV)(cs:List Nat)(ow:Nat→List (Option (List AV)))(st:St)(L:Nat→Bool):St:={ st with tmps:=st.tmps.mapIdx (gy ds vals L),own:=ow (cs.countP L) }
def dstsOf(ops:Array Oper):List (Option Tmp):=ops.toList.map (·.dst)
def zf(ops:Array Oper)(anc:List (List Nat))(cs:List Nat):Bool:=
 gD ops anc&&(List.range ops.size).all (fun i=>match ops[i]? with
  |none=>false
  |some o=>o.dst.isSome&&(match o.dst with|some d=>cR (dstsOf ops) 0 d==some i|none=>true)&&o.after.toList.all (fun e=>!Region.binds .any e||decide (e.on<i)) &&
   (Oper.looksAt ops o).all (fun t=>match cR (dstsOf ops) 0 t with|some j=>(anc.getD i []).contains j||(anc.getD j []).contains i|none=>true)) &&
 (List.range cs.length).all (fun k=>(List.range k).all fun j=>(anc.getD (cs.getD k 0) []).contains (cs.getD j 0))&&decide cs.Nodup&&cs.all (fun i=>decide (i<ops.size))
section
variable{E:Env}{ops:Array Oper}{anc:List (List Nat)}{cs:List Nat}{ow:Nat→List (Option (List AV))}{vals:List AV}{st:St}
theorem Pd{L:Nat→Bool}{t:Tmp}{i:Nat}(h:∀j,cR (dstsOf ops) 0 t=some j→L j=(anc.getD i []).contains j):(ew (dstsOf ops) vals cs ow st L).tmps.getD t .any=if t<st.tmps.length then qE (dstsOf ops) vals anc i st t else .any:=by
 simp only[ew,List.getD_eq_getElem?_getD,List.getElem?_mapIdx]
 by_cases ht:t<st.tmps.length
 ·rw[if_pos ht,List.getElem?_eq_getElem ht]
  simp only[Option.map_some,Option.getD_some,gy,qE]
  cases hl:cR (dstsOf ops) 0 t with
  |none=>simp[List.getD_eq_getElem?_getD,List.getElem?_eq_getElem ht]
  |some j=>
   simp only[h j hl]
   split<;>simp_all[List.getD_eq_getElem?_getD,List.getElem?_eq_getElem ht]
 ·rw[if_neg ht,List.getElem?_eq_none (Nat.le_of_not_lt ht)]
  rfl
theorem Lg{L:Nat→Bool}{i:Nat}(h:i∉cs):cs.countP (jg L i)=cs.countP L:=by
 apply List.countP_congr
 intro j hj
 have:j≠i:=fun e=>h (e ▸ hj)
 simp[jg,this]
theorem Pc{L:Nat→Bool}{i:Nat}{d:Tmp}(h:cR (dstsOf ops) 0 d=some i):(st.tmps.mapIdx (gy (dstsOf ops) vals L)).set d (vals.getD i .any)=st.tmps.mapIdx (gy (dstsOf ops) vals (jg L i))∨¬(∀t,cR (dstsOf ops) 0 t=some i→t=d):=by
 by_cases hu:∀t,cR (dstsOf ops) 0 t=some i→t=d
 ·left
  apply List.ext_getElem?
  intro t
  rw[List.getElem?_set]
  simp only[List.getElem?_mapIdx,List.length_mapIdx]
  by_cases htd:d=t
  ·subst htd
   rw[if_pos rfl]
   by_cases hd:d<st.tmps.length
   ·simp[hd,gy,h,jg]
   ·simp[hd]
  ·rw[if_neg htd]
   cases hx:st.tmps[t]? with
   |none=>rfl
   |some x=>
    simp only[Option.map_some,Option.some.injEq,gy]
    cases hl:cR (dstsOf ops) 0 t with
    |none=>rfl
    |some j=>
     have:j≠i:=fun e=>htd (hu t (e ▸ hl)).symm
     simp[jg,this]
 ·exact .inr hu
theorem vK:∀{ds:List (Option Tmp)} {k t i:Nat},cR ds k t=some i→∃j,i=k+j∧ds[j]?=some (some t)
 |[],_,_,_,h=>by simp[cR] at h
 |d::r,k,t,i,h=>by
  unfold cR at h
  split at h
  ·rename_i e
   simp only[Option.some.injEq] at h
   exact⟨0,by omega,by simp[e]⟩
  ·obtain⟨j,e1,e2⟩:=vK h
   exact⟨j+1,by omega,by simpa using e2⟩
theorem Tn{ds:List (Option Tmp)}{t i:Nat}(h:cR ds 0 t=some i):i<ds.length:=by
 obtain⟨j,e1,e2⟩:=vK h
 have:=(List.getElem?_eq_some_iff.1 e2).1
 omega
theorem Pb{L:Nat→Bool}(hl:(dstsOf ops).length=vals.length){p:AV→Bool}(h1:st.tmps.all p=true)(h2:vals.all p=true):(ew (dstsOf ops) vals cs ow st L).tmps.all p=true:=by
 rw[List.all_eq_true] at *
 intro x hx
 obtain⟨t,ht⟩:=List.mem_iff_getElem?.1 hx
 simp only[ew,List.getElem?_mapIdx] at ht
 cases hy:st.tmps[t]? with
 |none=>rw[hy] at ht;simp at ht
 |some y=>
  rw[hy] at ht
  simp only[Option.map_some,Option.some.injEq] at ht
  have hy2:=h1 y (List.mem_of_getElem? hy)
  rw[←ht]
  unfold gy
  cases hk:cR (dstsOf ops) 0 t with
  |none=>exact hy2
  |some i=>
   simp only[]
   split
   ·have hi:i<vals.length:=by rw[←hl];exact Tn hk
    have:vals.getD i .any∈vals:=List.mem_iff_getElem?.2 ⟨i,by simp[List.getD_eq_getElem?_getD,List.getElem?_eq_getElem hi]⟩
    exact h2 _ this
   ·exact hy2
theorem Pe{w0:World}{im0:cX}(h0:E.ok w0)(hG:jj E im0){Q:Exit→St→Prop}(hv:gD ops anc=true)
 (hlt:∀(i:Nat) (o:Oper),ops[i]?=some o→∀e∈o.after,Region.binds .any e=true→e.on<i)
 (hstep:∀(i:Nat) (o:Oper),ops[i]?=some o→∀L:Nat→Bool,L i=false→(∀p∈anc.getD i [],L p=true)→(∀m,L m=true→∀p∈anc.getD m [],L p=true)→bc E ops o (ew (dstsOf ops) vals cs ow st L) (ew (dstsOf ops) vals cs ow st (jg L i)))
 (hQ:∀L:Nat→Bool,(∀i,i<ops.size→L i=true)→Q .normal (ew (dstsOf ops) vals cs ow st L)):
 ∀(n:Nat) (L:Array Bool) (c:Ctx) (a:Act) (w:World),L.size=ops.size→L.toList.count false=n→jO anc L→Rel w0 im0 c (ew (dstsOf ops) vals cs ow st fun j=>L.getD j false) a w→
  wpAny E.P .any ops (fun e a w=>gN w0 im0 (Q e) a w) n L a w:=by
 have hall:∀L:Array Bool,L.size=ops.size→Region.ready .any ops L=[]→∀i,i<ops.size→L.getD i false=true:=by
  intro L hs hr i
  induction i using Nat.strongRecOn with
  |ind i ih=>
   intro hi
   cases hb:L.getD i false with
   |true=>rfl
   |false=>
    exfalso
    have:i∈Region.ready .any ops L:=by
     rw[mem_ready]
     refine⟨?_,ops[i],by simp[hi],fun e he hbd=>?_⟩
     ·have hi':i<L.size:=by omega
      simpa[Array.getD,hi'] using hb
     ·have:=hlt i ops[i] (by simp[hi]) e he hbd
      exact ih e.on this ab
    rw[hr] at this;simp at this
 have hset:∀(L:Array Bool) (i:Nat),i<L.size→(fun j=>(L.setIfInBounds i true).getD j false)=jg (fun j=>L.getD j false) i:=by
  intro L i hi
  funext j
  simp only[jg,Array.getD_eq_getD_getElem?,Array.getElem?_setIfInBounds]
  by_cases hj:j=i
  ·subst hj;simp[hi]
  ·rw[if_neg (fun e=>hj e.symm),if_neg hj]
 intro n
 induction n with
 |zero=>
  intro L c a w hs hc hw r
  have hno:∀i,i<ops.size→L.getD i false=true:=by
   intro i hi
   have hi':i<L.size:=by omega
   have:=List.count_eq_zero.1 hc
   cases hb:L[i] with
   |true=>simp[Array.getD,hi',hb]
   |false=>exact absurd (List.mem_iff_getElem.2 ⟨i,by simpa using hi',by simpa using hb⟩) this
  refine⟨?_,⟨c,_,r,hQ _ hno⟩⟩
  cases hr:Region.ready .any ops L with
  |nil=>rfl
  |cons i rest=>
   exfalso
   have hi:i∈Region.ready .any ops L:=by rw[hr];exact List.mem_cons_self ..
   obtain⟨h1,o,ho,_⟩:=mem_ready.1 hi
   have hio:i<ops.size:=(Array.getElem?_eq_some_iff.1 ho).1
   have:=hno i hio
   have hi':i<L.size:=by omega
   simp only[Array.getD,hi',dite_true] at h1 this
   rw[h1] at this;simp at this
 |succ n ih=>
  intro L c a w hs hc hw r
  refine⟨fun hr=>⟨c,_,r,hQ _ (hall L hs hr)⟩,fun i hi=>?_⟩
  obtain⟨h1,o,ho,hedge⟩:=mem_ready.1 hi
  have hio:i<ops.size:=(Array.getElem?_eq_some_iff.1 ho).1
  have hi':i<L.size:=by omega
  have hLi:L.getD i false=false:=by simpa[Array.getD,hi'] using h1
  have hf:=hstep i o ho (fun j=>L.getD j false) hLi (r8 hv hw hi) hw
  have hL2:=hset L i hi'
  rw[←hL2] at hf
  have hcount:(L.setIfInBounds i true).toList.count false=n:=by
   have hget:L.toList[i]'(by simpa using hi')=false:=by
    have:L[i]=false:=by simpa[Array.getD,hi'] using h1
    simpa using this
   rw[Array.toList_setIfInBounds,List.count_set (h:=by simpa using hi'),hc,hget]
   simp
  unfold wpOp
  rw[ho]
  simp only[]
  have hh:=hf (fun e z=>match e with|.normal=>z=ew (dstsOf ops) vals cs ow st (fun j=>(L.setIfInBounds i true).getD j false)|e=>Q e z) rfl w0 im0 c a w h0 hG r
  unfold wpList at hh
  have next:∀a' w',gN w0 im0 (fun z=>z=ew (dstsOf ops) vals cs ow st (fun j=>(L.setIfInBounds i true).getD j false)) a' w'→wpAny E.P .any ops (fun e a w=>gN w0 im0 (Q e) a w) n (L.setIfInBounds i true) a' w':=by
   rintro a' w' ⟨c',s,r',rfl⟩
   exact ih _ c' a' w' (by simpa using hs) hcount (hw.add hv hi) r'
  split at hh
  ·rename_i hwant
   rw[if_pos hwant]
   rcases hh with hh|⟨hh1,a',w',hh2⟩
   ·refine .inl (Vh (fun a' w' hz=>next a' w' ?_) (fun _ _ _ h=>h) (fun⟨a',w',h⟩=>⟨a',w',h⟩) hh)
    exact hz
   ·exact .inr ⟨hh1,a',w',hh2⟩
  ·rename_i hwant
   rw[if_neg hwant]
   exact next _ _ hh
def gj:List (Option Tmp)→List AV→List AV→List AV
 |some d::ds,v::vs,ts=>gj ds vs (ts.set d v)
 |none::ds,_::vs,ts=>gj ds vs ts
 |_,_,ts=>ts
theorem vL:∀(ds:List (Option Tmp)) (k t:Nat),cR ds (k+1) t=(cR ds k t).map (· +1)
 |[],_,_=>rfl
 |d::r,k,t=>by
  unfold cR
  split
  ·rfl
  ·exact vL r (k+1) t
theorem Aq:∀{ds:List (Option Tmp)} {k t:Nat},some t∉ds→cR ds k t=none
 |[],_,_,_=>rfl
 |d::r,k,t,h=>by
  simp only[List.mem_cons,not_or] at h
  unfold cR
  rw[if_neg (fun e=>h.1 e.symm)]
  exact Aq h.2
theorem wO:∀(ds:List (Option Tmp)) (vs ts:List AV) (t:Nat),ds.length=vs.length→(∀d,some d∈ds→ds.count (some d)≤1)→(gj ds vs ts)[t]?=(ts[t]?).map fun x=>gy ds vs (fun _=>true) t x
 |[],vs,ts,t,hl,hn=>by
  cases h:ts[t]?<;>simp[gj,gy,cR,h]
 |d::ds,[],ts,t,hl,hn=>by simp at hl
 |none::ds,v::vs,ts,t,hl,hn=>by
  have ih:=wO ds vs ts t (by simpa using hl) (fun d hd=>by have:=hn d (List.mem_cons_of_mem _ hd);simpa[List.count_cons] using this)
  show(gj ds vs ts)[t]?=_
  rw[ih]
  congr 1
  funext x
  have e:cR (none::ds) 0 t=(cR ds 0 t).map (· +1):=by
   show(if none=some t then _ else cR ds (0+1) t)=_
   rw[if_neg aB,vL]
  unfold gy
  rw[e]
  cases cR ds 0 t<;>simp
 |some d::ds,v::vs,ts,t,hl,hn=>by
  have hnd:some d∉ds:=by
   have:=hn d (List.mem_cons_self ..)
   rw[List.count_cons_self] at this
   exact List.count_eq_zero.1 ab
  have ih:=wO ds vs (ts.set d v) t (by simpa using hl) (fun d' hd=>by
   have:=hn d' (List.mem_cons_of_mem _ hd)
   rw[List.count_cons] at this;omega)
  show(gj ds vs (ts.set d v))[t]?=_
  rw[ih,List.getElem?_set]
  by_cases htd:d=t
  ·subst htd
   have e:cR (some d::ds) 0 d=some 0:=by
    show(if some d=some d then _ else _)=_
    rw[if_pos rfl]
   by_cases hd:d<ts.length
   ·simp[hd,gy,e,Aq hnd]
   ·simp[hd]
  ·have e:cR (some d::ds) 0 t=(cR ds 0 t).map (· +1):=by
    show(if some d=some t then _ else cR ds (0+1) t)=_
    rw[if_neg (by simpa using htd),vL]
   rw[if_neg htd]
   congr 1
   funext x
   unfold gy
   rw[e]
   cases cR ds 0 t<;>simp
theorem aa.na{id:Nat}{Q:Exit→St→Prop}(anc:List (List Nat))(vals:List AV)(cs:List Nat)(ow:Nat→List (Option (List AV)))(hm:E.P.follows .mixedOrders=true)(hk:zf ops anc cs=true)(hvl:(dstsOf ops).length=vals.length)
 (hown:st.own=ow 0) (hrsv:st.bT=none)
 (hp:∀(i:Nat) (o:Oper),ops[i]?=some o→i∉cs→∀s:St,s.gl=st.gl→(∃k,s.own=ow k)→s.tk=st.tk→s.bT=none→(∀t∈Oper.looksAt ops o,s.tmps.getD t .any=if t<st.tmps.length then qE (dstsOf ops) vals anc i st t else .any)→bc E ops o s (s.put o.dst (vals.getD i .any)))
 (hc:∀(k i:Nat) (o:Oper),cs[k]?=some i→ops[i]?=some o→∀s:St,s.gl=st.gl→s.own=ow k→s.tk=st.tk→s.bT=none→s.up=st.up→(∀p:AV→Bool,st.tmps.all p=true→vals.all p=true→s.tmps.all p=true)→(∀t∈Oper.looksAt ops o,s.tmps.getD t .any=if t<st.tmps.length then qE (dstsOf ops) vals anc i st t else .any)→bc E ops o s (St.put { s with own:=ow (k+1) } o.dst (vals.getD i .any)))
 (h:Q .normal { st with tmps:=gj (dstsOf ops) vals st.tmps,own:=ow cs.length }):aa E (.region id ops true) Q st:=fun w0 im0 cx a w h0 hG r=>by
 have r':Rel w0 im0 cx st a w.drew:=⟨r.defers,r.size,r.tmps,r.below.drew,r.dc,r.dq,r.cr,r.bU,fun i g k es h1 h2=>let h3:=r.own i g k es h1 h2;⟨h3.new,h3.im,h3.aZ⟩,r.cM,r.tail,fun t T b h1 h2=>let h3:=r.tok t T b h1 h2;⟨h3.new,h3.room,h3.im,h3.aZ⟩,r.apart,r.dy,r.up,r.hole⟩
 simp only[zf,Bool.and_eq_true,List.all_eq_true,List.mem_range,decide_eq_true_eq] at hk
 obtain⟨⟨⟨⟨hv,hops⟩,hchain⟩,hnd⟩,hrange⟩:=hk
 have hop:∀(i:Nat) (o:Oper),ops[i]?=some o→∃d,o.dst=some d∧cR (dstsOf ops) 0 d=some i∧(∀e∈o.after,Region.binds .any e=true→e.on<i)∧∀t∈Oper.looksAt ops o,∀j,cR (dstsOf ops) 0 t=some j→j∈anc.getD i []∨i∈anc.getD j []:=by
  intro i o ho
  have hi:i<ops.size:=(Array.getElem?_eq_some_iff.1 ho).1
  have hh:=hops i hi
  rw[ho] at hh
  simp only[Bool.and_eq_true] at hh
  obtain⟨⟨⟨h1,h2⟩,h3⟩,h4⟩:=hh
  obtain⟨d,hd⟩:=Option.isSome_iff_exists.1 h1
  rw[hd] at h2
  refine⟨d,hd,by simpa using h2,fun e he hb=>?_,fun t ht j hj=>?_⟩
  ·have:=List.all_eq_true.1 h3 e (by simpa using he)
   rw[hb] at this;simpa using this
  ·have:=List.all_eq_true.1 h4 t ht
   rw[hj] at this;simpa using this
 have hdst:∀(t i:Nat),cR (dstsOf ops) 0 t=some i→∃o,ops[i]?=some o∧o.dst=some t:=by
  intro t i hl
  obtain⟨j,e1,e2⟩:=vK hl
  have:i=j:=by omega
  subst this
  unfold dstsOf at e2
  rw[List.getElem?_map] at e2
  cases ho:ops.toList[i]? with
  |none=>rw[ho] at e2;simp at e2
  |some o=>
   rw[ho] at e2
   exact⟨o,by simpa using ho,by simpa using e2⟩
 have huniq:∀(t d i:Nat) (o:Oper),ops[i]?=some o→o.dst=some d→cR (dstsOf ops) 0 t=some i→t=d:=by
  intro t d i o ho hd hl
  obtain⟨o',ho',hd'⟩:=hdst t i hl
  rw[ho] at ho'
  have:o=o':=Option.some.inj ho'
  subst this
  rw[hd] at hd'
  exact(Option.some.inj hd').symm
 have hzero:ew (dstsOf ops) vals cs ow st (fun j=>(Array.replicate ops.size false).getD j false)=st:=by
  have hf:(fun j=>(Array.replicate ops.size false).getD j false)=fun _=>false:=by
   funext j
   by_cases hj:j<ops.size<;>simp[Array.getD,hj]
  rw[hf]
  unfold ew
  have e1:st.tmps.mapIdx (gy (dstsOf ops) vals fun _=>false)=st.tmps:=by
   apply List.ext_getElem?
   intro t
   rw[List.getElem?_mapIdx]
   cases st.tmps[t]? with
   |none=>rfl
   |some x=>
    simp only[Option.map_some,Option.some.injEq,gy]
    cases cR (dstsOf ops) 0 t<;>simp
  have e2:cs.countP (fun _=>false)=0:=by rw[List.countP_eq_zero];simp
  rw[e1,e2,←hown]
 refine wp_region_any hm (Pe (ops:=ops) (anc:=anc) (cs:=cs) (ow:=ow) (vals:=vals) (st:=st) h0 hG hv (fun i o ho e he hb=>(hop i o ho).choose_spec.2.2.1 e he hb) ?_ ?_ ops.size _ cx a _ aB aB (by intro m hm;by_cases hj:m<ops.size<;>simp[Array.getD,hj] at hm) ?_)
 ·intro i o ho L hLi hanc hcl
  obtain⟨d,hd,hlk,_,hlooks⟩:=hop i o ho
  have hread:∀t∈Oper.looksAt ops o,(ew (dstsOf ops) vals cs ow st L).tmps.getD t .any=if t<st.tmps.length then qE (dstsOf ops) vals anc i st t else .any:=fun t ht=>Pd fun j hj=>by
   by_cases hc:j∈anc.getD i []
   ·rw[hanc j hc];symm;simpa using hc
   ·have h2:=(hlooks t ht j hj).resolve_left hc
    have h3:L j=false:=by
     cases hb:L j with
     |false=>rfl
     |true=>have:=hcl j hb i h2;rw[hLi] at this;simp at this
    rw[h3];symm;simpa using hc
  have hput:=(Pc (st:=st) (vals:=vals) (L:=L) hlk).resolve_right (fun hn=>hn fun t ht=>huniq t d i o ho hd ht)
  by_cases hic:i∈cs
  ·obtain⟨k,hk⟩:=List.mem_iff_getElem?.1 hic
   have hklt:=(List.getElem?_eq_some_iff.1 hk).1
   have hbefore:∀j,j<k→L (cs.getD j 0)=true:=fun j hj=>hanc _ (by
    have:=hchain k hklt j hj
    rw[show cs.getD k 0=i by simp[List.getD_eq_getElem?_getD,hk]] at this
    simpa using this)
   have hbehind:∀j,k<j→j<cs.length→L (cs.getD j 0)=false:=fun j hj hj2=>by
    cases hb:L (cs.getD j 0) with
    |false=>rfl
    |true=>
     have:=hcl _ hb i (by
      have:=hchain j hj2 k hj
      rw[show cs.getD k 0=i by simp[List.getD_eq_getElem?_getD,hk]] at this
      simpa using this)
     rw[hLi] at this;simp at this
   have hcnt:∀M:Nat→Bool,(∀j,j<k→M (cs.getD j 0)=true)→(∀j,k<j→j<cs.length→M (cs.getD j 0)=false)→cs.countP M=k+(if M i then 1 else 0):=by
    intro M h1 h2
    have hsplit:cs=cs.take k++i::cs.drop (k+1):=by
     have hd:=List.drop_eq_getElem_cons hklt
     rw[(List.getElem?_eq_some_iff.1 hk).2] at hd
     rw[←hd,List.take_append_drop]
    rw[hsplit,List.countP_append,List.countP_cons]
    have e1:(cs.take k).countP M=k:=by
     have:(cs.take k).countP M=(cs.take k).length:=List.countP_eq_length.2 fun x hx=>by
      obtain⟨j,hj⟩:=List.mem_iff_getElem?.1 hx
      rw[List.getElem?_take] at hj
      split at hj
      ·rename_i hjk
       have:=h1 j hjk
       rwa[show cs.getD j 0=x by simp[List.getD_eq_getElem?_getD,hj]] at this
      ·simp at hj
     rw[this,List.length_take];omega
    have e2:(cs.drop (k+1)).countP M=0:=List.countP_eq_zero.2 fun x hx=>by
     obtain⟨j,hj⟩:=List.mem_iff_getElem?.1 hx
     rw[List.getElem?_drop] at hj
     have hj2:k+1+j<cs.length:=(List.getElem?_eq_some_iff.1 hj).1
     have:=h2 (k+1+j) ab hj2
     rw[show cs.getD (k+1+j) 0=x by simp[List.getD_eq_getElem?_getD,hj]] at this
     simp[this]
    rw[e1,e2];simp
   have c1:cs.countP L=k:=by rw[hcnt L hbefore hbehind,hLi];simp
   have hne:∀j,j≠k→j<cs.length→cs.getD j 0≠i:=fun j hj hj2 e=>hj (by
    have h3:cs[j]?=cs[k]?:=by
     rw[hk,←e,List.getElem?_eq_getElem hj2];simp[List.getD_eq_getElem?_getD,List.getElem?_eq_getElem hj2]
    exact((List.getElem?_inj hj2 hnd).1 h3))
   have c2:cs.countP (jg L i)=k+1:=by
    rw[hcnt (jg L i) (fun j hj=>by show(if _ then true else _)=true;rw[hbefore j hj];simp) (fun j hj hj2=>by show(if _ then true else _)=false;rw[if_neg (hne j ab hj2),hbehind j hj hj2])]
    simp[jg]
   have:=hc k i o hk ho (ew (dstsOf ops) vals cs ow st L) rfl (by simp[ew,c1]) rfl hrsv rfl (fun p h1 h2=>Pb hvl h1 h2) hread
   rw[hd] at this
   have e:St.put { ew (dstsOf ops) vals cs ow st L with own:=ow (k+1) } (some d) (vals.getD i .any)=ew (dstsOf ops) vals cs ow st (jg L i):=by
    simp only[St.put,ew]
    rw[hput,c2]
   rw[←e]
   exact this
  ·have:=hp i o ho hic (ew (dstsOf ops) vals cs ow st L) rfl ⟨_,rfl⟩ rfl hrsv hread
   rw[hd] at this
   have e:St.put (ew (dstsOf ops) vals cs ow st L) (some d) (vals.getD i .any)=ew (dstsOf ops) vals cs ow st (jg L i):=by
    simp only[St.put,ew]
    rw[hput,Lg hic]
   rw[←e]
   exact this
 ·intro L hL
  have e:ew (dstsOf ops) vals cs ow st L={ st with tmps:=gj (dstsOf ops) vals st.tmps,own:=ow cs.length }:=by
   unfold ew
   have e1:st.tmps.mapIdx (gy (dstsOf ops) vals L)=gj (dstsOf ops) vals st.tmps:=by
    apply List.ext_getElem?
    intro t
    rw[wO _ _ _ _ hvl,List.getElem?_mapIdx]
    ·congr 1
     funext x
     unfold gy
     cases hl:cR (dstsOf ops) 0 t with
     |none=>rfl
     |some i=>
      obtain⟨o,ho,_⟩:=hdst t i hl
      simp[hL i (Array.getElem?_eq_some_iff.1 ho).1]
    ·intro d hd
     rcases Nat.lt_or_ge 1 ((dstsOf ops).count (some d)) with hcc|hcc
     ·exfalso
      have hidx:∀i o,ops[i]?=some o→o.dst=some d→cR (dstsOf ops) 0 d=some i:=fun i o ho hd'=>by
       obtain⟨d2,e2,e3,_⟩:=hop i o ho
       rw[hd'] at e2
       rw[Option.some.inj e2];exact e3
      have hdup:∃i j:Nat,i<j∧(dstsOf ops)[i]?=some (some d)∧(dstsOf ops)[j]?=some (some d):=by
       have key:∀l:List (Option Tmp),1<l.count (some d)→∃i j:Nat,i<j∧l[i]?=some (some d)∧l[j]?=some (some d):=by
        intro l
        induction l with
        |nil=>intro h;simp at h
        |cons y l ih=>
         intro h
         rw[List.count_cons] at h
         by_cases hy:y=some d
         ·subst hy
          simp only[beq_self_eq_true,if_true] at h
          have hm:some d∈l:=List.count_pos_iff.1 ab
          obtain⟨j,hj⟩:=List.mem_iff_getElem?.1 hm
          exact⟨0,j+1,by omega,rfl,by simpa using hj⟩
         ·have:l.count (some d)>1:=by
           have hb:(y==some d)=false:=by simpa using hy
           rw[hb] at h;simpa using h
          obtain⟨i,j,hij,h1,h2⟩:=ih this
          exact⟨i+1,j+1,by omega,by simpa using h1,by simpa using h2⟩
       exact key _ hcc
      obtain⟨i,j,hij,h1,h2⟩:=hdup
      have get:∀k:Nat,(dstsOf ops)[k]?=some (some d)→cR (dstsOf ops) 0 d=some k:=fun k hk=>by
       unfold dstsOf at hk
       rw[List.getElem?_map] at hk
       cases ho:ops.toList[k]? with
       |none=>rw[ho] at hk;simp at hk
       |some o=>
        rw[ho] at hk
        exact hidx k o (by simpa using ho) (by simpa using hk)
      have e1:=get i h1
      have e2:=get j h2
      rw[e1] at e2
      have:=Option.some.inj e2
      omega
     ·exact hcc
   have e2:cs.countP L=cs.length:=List.countP_eq_length.2 fun x hx=>by
    obtain⟨k,hk⟩:=List.mem_iff_getElem?.1 hx
    exact hL x (hrange x hx)
   rw[e1,e2]
  rw[e];exact h
 ·rw[hzero];exact r'
end
section
variable{E:Env}{Q:Exit→St→Prop}{st:St}{ops:Array Oper}{l:List Oper}
end
theorem Du{no nt:Nat}:∀{own:List (Option (List AV))},(∀es,some es∈own→∀e∈es,∀z∈e.leaves,z.bw no nt=true)→gn no nt own own
 |[],_=>trivial
 |x::xs,h=>⟨.inr ⟨rfl,fun es e=>h es (by rw[e];exact List.mem_cons_self ..)⟩,Du fun es hes=>h es (List.mem_cons_of_mem _ hes)⟩
theorem qa:∀{tk:List Nat},jm tk tk
 |[]=>trivial
 |_::_=>⟨rfl,qa⟩
theorem Rel.L9{w0:World}{im0:cX}{c:Ctx}{st:St}{a:Act}{w:World}(r:Rel w0 im0 c st a w):Rel w0 im0 c st a w.drew:=
 ⟨r.defers,r.size,r.tmps,r.below.drew,r.dc,r.dq,r.cr,r.bU,fun i g k es h1 h2=>let h3:=r.own i g k es h1 h2;⟨h3.new,h3.im,h3.aZ⟩,r.cM,r.tail,fun t T b h1 h2=>let h3:=r.tok t T b h1 h2;⟨h3.new,h3.room,h3.im,h3.aZ⟩,r.apart,r.dy,r.up,r.hole⟩
section
variable{E:Env}{ops:Array Oper}{anc:List (List Nat)}{cs:List Nat}{ow:Nat→List (Option (List AV))}{vals:List AV}{st:St}
end
theorem F7{E:Env}{g:FuncId}{fn:Func}{body:Code}{rs:List ResultVar}{st:St}{w0:World}{im0:cX}{cx:Ctx}{a:Act}{w:World}{ys:List AV}{vs:List Value}{K:St→AV→Prop}
 (h0:E.ok w0) (hG:jj E im0) (r:Rel w0 im0 cx st a w) (hf:E.P.funcs[g]?=some fn) (hb:fn.body=some body) (hr:fn.results.toList=rs) (hrsv:st.bT=none) (hargs:Pw cx ys vs)
 (h:aa E body (bW E.P rs st K) { st with tmps:=ys++List.replicate (fn.ntmps-ys.length) (.v undef),up:=st.tmps++st.up }):
 Calls E.P g vs.toArray w fun e w'=>∃v,e= .returned v∧∃cx' s z,Rel w0 im0 cx' s a w'∧VR cx' z v∧K s z:=by
 subst hr
 have hrel:Rel w0 ⟨im0.im,a.tmps.toList++im0.ex,im0.dr⟩ cx { st with tmps:=ys++List.replicate (fn.ntmps-ys.length) (.v undef),up:=st.tmps++st.up } { tmps:=vs.toArray++Array.replicate (fn.ntmps-vs.toArray.size) undef,defers:=[] } w:=by
  refine⟨⟨rfl,r.defers.2⟩,by simp[hargs.1],?_,r.below,r.dc,r.dq,r.cr,r.bU,r.own,r.cM,r.tail,r.tok,r.apart,r.dy,⟨?_,?_⟩,r.hole⟩
  ·intro i x v h1 h2
   rcases fY _ _ _ _ h1 with⟨l1,h1⟩|⟨l1,h1⟩
   ·have:i<vs.length:=by rw[hargs.1];exact l1
    rw[Array.getElem?_append_left (by simpa using this)] at h2
    exact hargs.2 i x v h1 (by simpa using h2)
   ·have hlen:vs.length=ys.length:=hargs.1
    rw[Array.getElem?_append_right (by simp;omega)] at h2
    have e1:x= .v undef:=by
     have:=List.mem_of_getElem? h1
     simp only[List.mem_replicate] at this
     exact this.2
    have e2:v=undef:=by
     have:=Array.mem_of_getElem? h2
     simp only[Array.mem_replicate] at this
     exact this.2
    subst e1;subst e2
    exact .base (.v _)
  ·show(a.tmps.toList++im0.ex).length=(st.tmps++st.up).length
   rw[List.length_append,List.length_append,r.up.1,Array.length_toList,r.size]
  ·intro i x v h1 h2
   have h1:(st.tmps++st.up)[i]?=some x:=h1
   have h2:(a.tmps.toList++im0.ex)[i]?=some v:=h2
   rcases fY _ _ _ _ h1 with⟨l1,h1⟩|⟨l1,h1⟩
   ·rw[List.getElem?_append_left (by rw[Array.length_toList,r.size];exact l1)] at h2
    exact r.tmps i x v h1 (by simpa using h2)
   ·rw[List.getElem?_append_right (by rw[Array.length_toList,r.size];exact l1),Array.length_toList,r.size] at h2
    exact r.up.2 _ x v h1 h2
 have hsz:vs.toArray.size=vs.length:=by simp
 refine calls_of_wp hf hb ?_
 ·refine wp_mono (h w0 ⟨im0.im,a.tmps.toList++im0.ex,im0.dr⟩ _ _ w h0 hG hrel) fun e a' w' hh=>?_
  obtain⟨c',st',r',q⟩:=hh
  have fin:(st'.up=st.tmps++st.up∧iu E.P st' fn.results.toList fun l'=>K { st' with tmps:=st.tmps,up:=st.up } (fB l'))→
   a'.defers=[]∧∃v,(results fn a'.tmps).run E.P w'= .ok v w'∧(∃v',Ending.returned v= .returned v'∧∃cx' s z,Rel w0 im0 cx' s a w'∧VR cx' z v'∧K s z):=by
   rintro⟨hup,q⟩
   obtain⟨l',us',h1,h2,h3⟩:=kV r' q
   refine⟨r'.defers.1,_,wE h1,_,rfl,?_⟩
   have hup1:=r'.up.1
   have hup2:=r'.up.2
   rw[hup] at hup1 hup2
   have hup2':∀(i:Nat) (x:AV) (v:Value),(st.tmps++st.up)[i]?=some x→(a.tmps.toList++im0.ex)[i]?=some v→VR c' x v:=hup2
   have rb:Rel w0 im0 c' { st' with tmps:=st.tmps,up:=st.up } a w':=by
    refine⟨r.defers,r.size,fun i x v e1 e2=>?_,r'.below,r'.dc,r'.dq,r'.cr,r'.bU,r'.own,r'.cM,r'.tail,r'.tok,r'.apart,r'.dy,⟨r.up.1,fun i x v e1 e2=>?_⟩,r'.hole⟩
    ·have e1:st.tmps[i]?=some x:=e1
     have hlt:i<st.tmps.length:=(List.getElem?_eq_some_iff.1 e1).1
     refine hup2' i x v ?_ ?_
     ·rw[List.getElem?_append_left hlt];exact e1
     ·rw[List.getElem?_append_left (by rw[Array.length_toList,r.size];exact hlt)];simpa using e2
    ·have e1:st.up[i]?=some x:=e1
     refine hup2' (st.tmps.length+i) x v ?_ ?_
     ·rw[List.getElem?_append_right ab]
      rw[Nat.add_sub_cancel_left];exact e1
     ·rw[List.getElem?_append_right (by rw[Array.length_toList,r.size];omega),Array.length_toList,r.size,Nat.add_sub_cancel_left];exact e2
   refine⟨c',_,fB l',rb,?_,h3⟩
   cases l' with
   |nil=>
    have:us'=[]:=List.eq_nil_of_length_eq_zero h2.1
    subst this
    exact .ax [] [] rfl aB
   |cons x l'=>cases l' with
    |nil=>
     cases us' with
     |nil=>have:=h2.1;simp at this
     |cons u us'=>
      have:us'=[]:=List.eq_nil_of_length_eq_zero (by have:=h2.1;simpa using this)
      subst this
      exact h2.2 0 x u rfl rfl
    |cons z l'=>
     have hl2:us'.length=(x::z::l').length:=h2.1
     rw[if_neg (by rw[hl2];simp)]
     exact .ax _ us' h2.1 h2.2
  cases e<;>simp only[bW] at q<;>first|exact q.elim|skip
  case normal=>exact fin q
  case ret=>exact fin q
theorem al.ya{E:Env}{Q:Exit→St→Prop}{st:St}{ops:Array Oper}{l:List Oper}{d:Tmp}{dst:Option Tmp}{g F:FuncId}{p x:Operand}{tys:Array TypeId}{ty ty2:TypeId}{pos pos2:String}{after after2:Array Edge}
 (hc:ar E.P g=true) (hd:d<st.tmps.length) (hp:(st.put (some d) .any).ev p=st.ev p)
 (h:∀(w0:World) (im0:cX) (cx:Ctx) (a:Act) (w:World) (pv rv:Value),E.ok w0→jj E im0→Rel w0 im0 cx (st.put (some d) .any) a w→pv=a.eval p→VR cx (st.ev p) pv→VR cx (st.ev x) rv→
   Calls E.P g #[pv,.func (.func F) #[rv] #[]] w fun e w'=>∃v,e= .returned v∧∃cx' st' z,Rel w0 im0 cx' st' a w'∧VR cx' z v∧al E ops l Q (st'.put dst z)):
 al E ops (⟨some d,.makeFunc (.func F) #[x] #[],ty,pos,after,none⟩::⟨dst,.call ⟨.value (.func g),#[p,.tmp d],tys⟩,ty2,pos2,after2,none⟩::l) Q st:=by
 intro w0 im0 cx a w h0 hG r
 refine wpList_step (fun K' hK'=>?_)
 have hw:Region.wanted ⟨some d,.makeFunc (.func F) #[x] #[],ty,pos,after,none⟩ (yielded ops a.tmps)=true:=rfl
 rw[if_pos hw]
 have hrun:(execOp a.eval ⟨some d,.makeFunc (.func F) #[x] #[],ty,pos,after,none⟩).run E.P w= .ok (.value (.func (.func F) #[a.eval x] #[])) w:=by
  simp[execOp,go_sem]
 unfold Oper.wp
 rw[hrun]
 simp only[Oper.upon]
 refine hK' _ _ ?_
 have hxv:=r.ev x
 have r1:Rel w0 im0 cx (st.put (some d) .any) (a.put (some d) (.func (.func F) #[a.eval x] #[])) w:=r.put (some d) (.base (.any _))
 refine wpList_step (fun K2 hK2=>?_)
 have hw2:Region.wanted ⟨dst,.call ⟨.value (.func g),#[p,.tmp d],tys⟩,ty2,pos2,after2,none⟩ (yielded ops (a.put (some d) (.func (.func F) #[a.eval x] #[])).tmps)=true:=rfl
 rw[if_pos hw2]
 have hpv:=r1.ev p
 rw[hp] at hpv
 have hdv:(a.put (some d) (.func (.func F) #[a.eval x] #[])).eval (.tmp d)= .func (.func F) #[a.eval x] #[]:=by
  have:d<a.tmps.size:=by rw[r.size];exact hd
  simp[Act.put,Act.eval,this]
 have hrun2:(execOp (a.put (some d) (.func (.func F) #[a.eval x] #[])).eval ⟨dst,.call ⟨.value (.func g),#[p,.tmp d],tys⟩,ty2,pos2,after2,none⟩).run E.P w= .ok (.enter g #[(a.put (some d) (.func (.func F) #[a.eval x] #[])).eval p,.func (.func F) #[a.eval x] #[]]) w:=by
  unfold ar at hc
  split at hc
  ·rename_i fn hf
   simp only[Bool.and_eq_true,Bool.not_eq_true'] at hc
   obtain⟨hn1,hn2⟩:=hc
   have hbn:fn.body.isNone=false:=by
    cases hb:fn.body with
    |none=>rw[hb] at hn2;simp at hn2
    |some b=>rfl
   have he':(a.put (some d) (.func (.func F) #[a.eval x] #[])).eval (.func g)= .func (.func g) #[] #[]:=rfl
   simp only[execOp,resolve,he',Deferred.ofValue,Sem.run_bind,Sem.run_pure,Result.andThen_ok,invoke,callFunc,run_program,hf,hn1,Bool.false_eq_true,if_false,hbn,Array.empty_append,List.map_toArray,List.map_cons,List.map_nil,hdv,Array.append_empty]
  ·simp at hc
 unfold Oper.wp
 rw[hrun2]
 simp only[Oper.upon]
 refine(h w0 im0 cx _ w _ _ h0 hG r1 rfl hpv hxv).mono ?_
 rintro e w' ⟨v,rfl,cx',st',z,r',hz,hk⟩
 exact hK2 _ _ (hk w0 im0 cx' _ w' h0 hG (r'.put dst hz))
theorem AV.uG{no nt no' nt':Nat}(h1:no≤no')(h2:nt≤nt'){x:AV}(h:x.ei no nt=true):x.ei no' nt'=true:=by
 cases x with
 |sl t k es=>cases t with
  |none=>rfl
  |some t=>simp only[AV.ei,decide_eq_true_eq] at *;omega
 |mu=>simp only[AV.ei,decide_eq_true_eq] at *;omega
 |ptr=>simp only[AV.ei,decide_eq_true_eq] at *;omega
 |fn f cs=>cases cs<;>simp_all[AV.ei]
 |_=>simp_all[AV.ei]
theorem AV.xT{no nt no' nt':Nat}(h1:no≤no')(h2:nt≤nt'){x:AV}(h:x.gR no nt=true):x.gR no' nt'=true:=by
 cases x with
 |agg cs=>simp only[AV.gR,List.all_eq_true] at *;exact fun y hy=>AV.uG h1 h2 (h y hy)
 |fn f cs=>simp only[AV.gR,List.all_eq_true] at *;exact fun y hy=>AV.uG h1 h2 (h y hy)
 |_=>simp only[AV.gR] at *;first|exact AV.uG h1 h2 h|rfl
theorem AV.Fk{no nt no' nt':Nat}(h1:no≤no')(h2:nt≤nt'){x:AV}(h:x.bw no nt=true):x.bw no' nt'=true:=by
 cases x with
 |ax cs=>simp only[AV.bw,List.all_eq_true] at *;exact fun y hy=>AV.xT h1 h2 (h y hy)
 |_=>simp only[AV.bw] at *;exact AV.xT h1 h2 h
def dA(own:List (Option (List AV)))(no nt:Nat):Prop:=∀es,some es∈own→∀e∈es,∀z∈e.leaves,z.bw no nt=true
theorem dA.mono{own:List (Option (List AV))}{no nt no' nt':Nat}(h:dA own no nt)(h1:no≤no')(h2:nt≤nt'):dA own no' nt':=fun es hes e he z hz=>AV.Fk h1 h2 (h es hes e he z hz)
theorem dA.app{own l:List (Option (List AV))}{no nt:Nat}(h:dA own no nt)(h2:dA l no nt):dA (own++l) no nt:=fun es hes=>(List.mem_append.1 hes).elim (h es) (h2 es)
theorem dA.set{own:List (Option (List AV))}{no nt id:Nat}{x:List AV}(h:dA own no nt)(h2:∀e∈x,∀z∈e.leaves,z.bw no nt=true):dA (own.set id (some x)) no nt:=fun es hes=>by
 rcases List.mem_or_eq_of_mem_set hes with hes|hes
 ·exact h es hes
 ·simp only[Option.some.injEq] at hes;subst hes;exact h2
theorem dA.nil{no nt:Nat}:dA [] no nt:=fun es hes=>by simp at hes
theorem dA.cons{own:List (Option (List AV))}{no nt:Nat}{x:Option (List AV)}(h:∀es,x=some es→∀e∈es,∀z∈e.leaves,z.bw no nt=true)(h2:dA own no nt):dA (x::own) no nt:=fun es hes=>by
 rcases List.mem_cons.1 hes with hes|hes
 ·exact h es hes.symm
 ·exact h2 es hes
theorem dA.wk{own:List (Option (List AV))}{no nt:Nat}(h:dA own no nt):gn no nt own own:=Du h
section
variable{α:Type}{own:List α}{a b c x:α}
end
end Go.az
end
section
namespace Go.Proofs.YthoonfpkfdjhiaaGreatDoor
open Go Go.az Go.RowKit
abbrev eu(x:BitVec 32):AV:= .v (.int .u32 (x.toNat:Int))
def k9(i:Nat):List AV:=(List.range 256).map fun j=>eu (if j<i then Kp.jc (BitVec.ofNat 32 j) else 0)
def bH(d l:Int)(i:Nat):AV:= .agg (.v (.int .u32 d):: .v (.int .i32 l):: .v (.int .u32 0)::k9 i)
theorem tM(i:Nat):(k9 i).length=256:=by simp[k9]
theorem tL{i j:Nat}(hj:j<256):(k9 i)[j]?=some (eu (if j<i then Kp.jc (BitVec.ofNat 32 j) else 0)):=by
 unfold k9;rw[List.getElem?_map,List.getElem?_range hj];rfl
theorem Yz{i:Nat}(hi:i<256):(k9 i).set i (eu (Kp.jc (BitVec.ofNat 32 i)))=k9 (i+1):=by
 apply List.ext_getElem?
 intro j
 by_cases hj:j<256
 ·rw[List.getElem?_set]
  by_cases e:i=j
  ·subst e
   rw[if_pos rfl,if_pos (by rw[tM];exact hj),tL hj,if_pos (Nat.lt_succ_self i)]
  ·rw[if_neg e,tL hj,tL hj]
   by_cases h:j<i
   ·rw[if_pos h,if_pos ab]
   ·rw[if_neg h,if_neg ab]
 ·rw[List.getElem?_eq_none (by rw[List.length_set,tM];omega),List.getElem?_eq_none (by rw[tM];omega)]
theorem qX(x:BitVec 32):BitVec.ofInt 32 (x.toNat:Int)=x:=by simp
theorem xu(x:BitVec 32):IntKind.u32.wrap ((x.toNat:Nat):Int)=(x.toNat:Int):=by
 have:=x.isLt
 simp only[IntKind.wrap,IntKind.bits,IntKind.signed,Bool.false_and,Bool.false_eq_true,if_false]
 omega
theorem and_one(x:BitVec 32):(x &&& 1#32).toNat=if x.getLsbD 0 then 1 else 0:=by
 have h:(x &&& 1#32)=if x.getLsbD 0 then 1#32 else 0#32:=by
  apply BitVec.eq_of_getLsbD_eq
  intro i hi
  rw[BitVec.getLsbD_and]
  have e:(1#32).getLsbD i=decide (i=0):=by
   have:∀j:Fin 32,(1#32).getLsbD j.1=decide (j.1=0):=by decide
   exact this ⟨i,hi⟩
  rw[e]
  by_cases h0:i=0
  ·subst h0;cases x.getLsbD 0<;>simp
  ·cases x.getLsbD 0<;>simp[h0,e]
 rw[h];split<;>rfl
theorem XP(x:BitVec 32):((x.toNat:Int)).fdiv 2=((x >>> 1).toNat:Int):=by
 rw[BitVec.toNat_ushiftRight,Nat.shiftRight_eq_div_pow,Int.fdiv_eq_ediv_of_nonneg _ aj]
 rfl
theorem w4:∀(n:Nat) (x:BitVec 32),Kp.eU (n+1) x=Kp.rz (Kp.eU n x)
 |0,_=>rfl
 |n+1,x=>by
  show Kp.eU (n+1) (Kp.rz x)=_
  rw[w4 n];rfl
theorem pZ{d l:Int}{i no nt:Nat}{e z:AV}(he:e∈[bH d l i])(hz:z∈e.leaves):z.bw no nt=true:=by
 simp only[List.mem_singleton] at he
 subst he
 simp only[bH,AV.leaves,List.mem_cons,k9,List.mem_map] at hz
 rcases hz with rfl|rfl|rfl|⟨j,_,rfl⟩<;>rfl
theorem KX{i:Nat}(h:i<256):IntKind.u32.wrap (i:Int)=((BitVec.ofNat 32 i).toNat:Int):=by
 simp only[IntKind.wrap,IntKind.bits,IntKind.signed,Bool.false_and,Bool.false_eq_true,if_false,BitVec.toNat_ofNat]
 omega
theorem RP{P K1:St→Prop}{s:St}(h:∀s,P s→K1 s)(p:P s):K1 s:=h s p
theorem xG(x:BitVec 32):IntKind.u32.wrap ((x &&& BitVec.ofInt 32 1).toNat:Int)=if x.getLsbD 0 then 1 else 0:=by
 have e:BitVec.ofInt 32 1=1#32:=by decide
 rw[e,and_one];split<;>decide
theorem fdiv_one(x:BitVec 32):((x.toNat:Int)).fdiv (2^min 1 32)=((x >>> 1).toNat:Int):=XP x
theorem UN{x:BitVec 32}{j:Nat}(c:IntKind.u32.wrap ((Kp.eU j x &&& BitVec.ofInt 32 1).toNat:Int)=1):
 eu (Kp.eU (j+1) x)=AV.v (.int .u32 (IntKind.u32.wrap ((BitVec.ofInt 32 (((Kp.eU j x).toNat:Int).fdiv (2^min 1 32)) ^^^ BitVec.ofInt 32 3988292384).toNat:Int))):=by
 rw[xG] at c
 have hb:(Kp.eU j x).getLsbD 0=true:=by
  cases h:(Kp.eU j x).getLsbD 0 with
  |true=>rfl
  |false=>rw[h] at c;simp at c
 rw[fdiv_one,qX,xu,w4]
 unfold Kp.rz;rw[hb];rfl
theorem Mm{x:BitVec 32}{j:Nat}(c:¬IntKind.u32.wrap ((Kp.eU j x &&& BitVec.ofInt 32 1).toNat:Int)=1):
 eu (Kp.eU (j+1) x)=AV.v (.int .u32 (((Kp.eU j x).toNat:Int).fdiv (2^min 1 32))):=by
 rw[xG] at c
 have hb:(Kp.eU j x).getLsbD 0=false:=by
  cases h:(Kp.eU j x).getLsbD 0 with
  |false=>rfl
  |true=>rw[h] at c;simp at c
 rw[fdiv_one,w4]
 unfold Kp.rz;rw[hb];rfl
theorem uQ{j:Nat}(h:j<1000):i64 ((j+1:Nat):Int)=AV.v (.int .i64 (IntKind.i64.wrap ((j:Int)+1))):=by
 rw[aM ab ab];rfl
theorem rA(d l:Int)(i:Nat):(bH d l i).leaves.length=259:=by
 simp[bH,AV.leaves,tM]
theorem Zp{i:Nat}(hi:i<256):fb (bH 0 1 i) (3+i) (eu (Kp.eU 8 (BitVec.ofNat 32 i)))=bH 0 1 (i+1):=by
 unfold fb
 rw[if_neg ab]
 show AV.agg (((AV.v (.int .u32 0)):: .v (.int .i32 1):: .v (.int .u32 0)::k9 i).set (3+i) _)=_
 have:3+i=i+1+1+1:=by omega
 rw[this]
 simp only[List.set_cons_succ]
 unfold bH
 rw[←Yz hi];rfl
end Go.Proofs.YthoonfpkfdjhiaaGreatDoor
end
section
namespace Go.Proofs.YthoonfpkfdjhiaaGreatDoor
open Go
theorem disable(w:World):(callFunc 292 #[]).run Tryz.prog w= .ok (.value (.tuple #[])) w:=run_call_mark0 Tryz.func292 ae ae ae .disable ae w
theorem enable(w:World):(callFunc 294 #[]).run Tryz.prog w= .ok (.value (.tuple #[])) w:=run_call_mark0 Tryz.func294 ae ae ae .enable ae w
theorem acquire(a:Addr)(w:World):(callFunc 295 #[.pointer (some a)]).run Tryz.prog w= .ok (.value (.tuple #[])) w:=run_call_marked Tryz.func295 ae ae ae .acquire ae a w
theorem releaseMerge(a:Addr)(w:World):(callFunc 297 #[.pointer (some a)]).run Tryz.prog w= .ok (.value (.tuple #[])) w:=run_call_marked Tryz.func297 ae ae ae .releaseMerge ae a w
set_option maxRecDepth 100000 in
theorem Ys(a:Addr)(x:Value)(u:FrameMode)(w:World)(hc:w.cell? a=some x)(hz:w.frozen? a=false):
 CallsD Tryz.prog 284 #[.pointer (some a),.bool true] u w fun e u' w'=>u'=u∧(e= .returned (.tuple #[])∧w'=w.drew.setCell a (.int .u32 1)):=by
 have hc':w.drew.cell? a=some x:=by go_simp
 have hz':w.drew.frozen? a=false:=by go_simp
 have hst:=run_call_store (P:=Tryz.prog) Tryz.func290 ae ae ae ae (k:= .u32) (y:=1) hc' hz'
 go_enter_d Tryz.func284,Tryz.ntmps284
 go_wp2
 go_region_calls
 all_goals(go_end0;exact⟨rfl,rfl⟩)
set_option maxRecDepth 100000 in
theorem aa1(a:Addr)(u:FrameMode)(w:World)(hc:w.cell? a=some (.int .i32 1))(hz:w.frozen? a=false):
 CallsD Tryz.prog 283 #[.pointer (some a)] u w fun e u' w'=>u'=u∧(e= .returned (.tuple #[])∧w'=w.setCell a (.int .i32 0)):=by
 have hd:=disable
 have he:=enable
 have hr:=releaseMerge
 have hadd:=run_call_add (P:=Tryz.prog) Tryz.func298 ae ae ae .i32 ae (y:=-1) (s:=0) hc hz (by simp[go_sem];rfl)
 have hcv:=run_convert_to_unsafe (P:=Tryz.prog) (src:=363) (dst:=367) Tryz.underlying363 Tryz.underlying367 ae hc
 go_enter_d Tryz.func283,Tryz.ntmps283
 go_wp2
 go_end0
 go_wp2
 go_end0
 exact⟨rfl,rfl⟩
set_option maxRecDepth 100000 in
theorem Tk(a:Addr)(w:World)(hc:w.cell? a=some (.int .i32 0))(hz:w.frozen? a=false):
 Calls Tryz.prog 282 #[.pointer (some a)] w fun e w'=>e= .returned (.tuple #[])∧w'=w.setCell a (.int .i32 1):=by
 have hd:=disable
 have he:=enable
 have ha:=acquire
 have hcas:=run_call_cas_hit (P:=Tryz.prog) Tryz.func293 ae ae ae .i32 ae (y:=1) hc hz
 have hc':(w.setCell a (.int .i32 1)).cell? a=some (.int .i32 1):=World.cell?_setCell_same w a _ hc
 have hcv:=run_convert_to_unsafe (P:=Tryz.prog) (src:=363) (dst:=367) Tryz.underlying363 Tryz.underlying367 ae hc'
 go_enter Tryz.func282,Tryz.ntmps282
 go_wp2
 (refine bodyPost_ret (results_none rfl _ _ _) rfl ?_)
 go_wp2
 go_end0
 exact⟨rfl,rfl⟩
set_option maxRecDepth 100000 in
theorem X6(b off:Nat)(tb:Addr)(R:World→Prop)(w:World)
 (h0:w.cell? ⟨b,off,none⟩=some (.int .u32 0)) (h1:w.cell? ⟨b,off+1,none⟩=some (.int .i32 0)) (f1:w.frozen? ⟨b,off+1,none⟩=false)
 (hf:Calls Tryz.prog 215 #[.pointer (some tb)] (w.setCell ⟨b,off+1,none⟩ (.int .i32 1)) fun e w'=>e= .returned (.tuple #[])∧R w')
 (hR:∀w2,R w2→w2.cell? ⟨b,off,none⟩=some (.int .u32 0)∧w2.cell? ⟨b,off+1,none⟩=some (.int .i32 1)∧w2.frozen? ⟨b,off,none⟩=false∧w2.frozen? ⟨b,off+1,none⟩=false):
 Calls Tryz.prog 260 #[.pointer (some ⟨b,off,none⟩),.func (.func 215) #[.pointer (some tb)] #[]] w fun e w'=>e= .returned (.tuple #[])∧
  ∃w2,R w2∧w'=(w2.drew.setCell ⟨b,off,none⟩ (.int .u32 1)).setCell ⟨b,off+1,none⟩ (.int .i32 0):=by
 have hl:=run_call_load (P:=Tryz.prog) Tryz.func281 ae ae ae .u32 ae (w:=w.setCell ⟨b,off+1,none⟩ (.int .i32 1)) (a:=⟨b,off,none⟩) (x:=0) ((World.cell?_setCell_other _ ⟨b,off+1,none⟩ ⟨b,off,none⟩ _ aB).trans h0)
 have hnot:∀(x:Bool) (w:World),(Op.unary .not (.bool x)).run Tryz.prog w= .ok (.bool (!x)) w:=fun _ _=>rfl
 go_enter_defers Tryz.func260,Tryz.ntmps260
 go_wp2_with (go_at_call 282;refine(Tk ⟨b,off+1,none⟩ _ (by go_simp) (by go_simp)).mono ?_;rintro e w' ⟨rfl,rfl⟩)
 go_wp2_with (first|(go_at_call 215;refine hf.mono ?_;rintro e w2 ⟨rfl,hw2⟩)|(go_at_call 259;go_in))
 obtain⟨g0,g1,z0,z1⟩:=hR w2 hw2
 refine leaves_cons (f:=284) (args:=#[.pointer (some ⟨b,off,none⟩),.bool true]) aB (by simp[go_sem]) ?_
 refine(Ys ⟨b,off,none⟩ (.int .u32 0) .returning _ g0 z0).mono ?_
 rintro e u' w'' ⟨rfl,rfl,rfl⟩
 refine leaves_cons (f:=283) (args:=#[.pointer (some ⟨b,off+1,none⟩)]) (by simp[settle]) (by simp[go_sem]) ?_
 refine(aa1 ⟨b,off+1,none⟩ _ _ ?_ (by simp[z1])).mono ?_
 ·refine(World.cell?_setCell_other _ ⟨b,off,none⟩ ⟨b,off+1,none⟩ _ aB).trans ?_
  rw[World.cell?_drew]
  exact g1
 rintro e u' w'' ⟨rfl,rfl,rfl⟩
 simp[Leaves,settle,results,Tryz.results260]
 exact⟨w2,hw2,rfl⟩
set_option maxRecDepth 100000 in
theorem L5(b off:Nat)(tb:Addr)(R:World→Prop)(w:World)
 (h0:w.cell? ⟨b,off,none⟩=some (.int .u32 0)) (h1:w.cell? ⟨b,off+1,none⟩=some (.int .i32 0)) (f1:w.frozen? ⟨b,off+1,none⟩=false)
 (hf:Calls Tryz.prog 215 #[.pointer (some tb)] (w.setCell ⟨b,off+1,none⟩ (.int .i32 1)) fun e w'=>e= .returned (.tuple #[])∧R w')
 (hR:∀w2,R w2→w2.cell? ⟨b,off,none⟩=some (.int .u32 0)∧w2.cell? ⟨b,off+1,none⟩=some (.int .i32 1)∧w2.frozen? ⟨b,off,none⟩=false∧w2.frozen? ⟨b,off+1,none⟩=false):
 Calls Tryz.prog 214 #[.pointer (some ⟨b,off,none⟩),.func (.func 215) #[.pointer (some tb)] #[]] w fun e w'=>e= .returned (.tuple #[])∧
  ∃w2,R w2∧w'=(w2.drew.setCell ⟨b,off,none⟩ (.int .u32 1)).setCell ⟨b,off+1,none⟩ (.int .i32 0):=by
 have hl:=run_call_load (P:=Tryz.prog) Tryz.func281 ae ae ae .u32 ae h0
 have hnot:∀(x:Bool) (w:World),(Op.unary .not (.bool x)).run Tryz.prog w= .ok (.bool (!x)) w:=fun _ _=>rfl
 go_enter Tryz.func214,Tryz.ntmps214
 go_wp2_with (first|(go_at_call 260;refine(X6 b off tb R _ h0 h1 f1 hf hR).mono ?_;rintro e w' ⟨rfl,w2,hw2,rfl⟩)|(go_at_call 259;go_in))
 go_end0
 exact⟨rfl,w2,hw2,rfl⟩
set_option maxRecDepth 100000 in
theorem L3(a:Addr)(d:Int)(hd:¬d=0)(fv:Value)(w:World)(h0:w.cell? a=some (.int .u32 d)):
 Calls Tryz.prog 214 #[.pointer (some a),fv] w fun e w'=>e= .returned (.tuple #[])∧w'=w:=by
 have hl:=run_call_load (P:=Tryz.prog) Tryz.func281 ae ae ae .u32 ae h0
 have hnot:∀(x:Bool) (w:World),(Op.unary .not (.bool x)).run Tryz.prog w= .ok (.bool (!x)) w:=fun _ _=>rfl
 have hd':(d !=0)=true:=by simp[hd]
 go_enter Tryz.func214,Tryz.ntmps214
 go_wp2
 go_end0
 exact⟨rfl,rfl⟩
end Go.Proofs.YthoonfpkfdjhiaaGreatDoor
end
section
namespace Go.az
open Go Go.RowKit
section
variable{P:Program}{w0:World}{im0:cX}{c:Ctx}{st:St}{a:Act}{w:World}
theorem Rel.q5(r:Rel w0 im0 c st a w){id g q idx off:Nat}{es:List AV}{e:AV}{x:Value}
 (hb:c.β[id]?=some (some (g,q))) (ho:st.own[id]?=some (some es)) (he:es[idx]?=some e) (hl:e.leaves[off]?=some (.v x)):
 w.cell? ⟨g,idx*q+off,none⟩=some x∧w.frozen? ⟨g,idx*q+off,none⟩=false:=by
 obtain⟨cs,ty,lo,hi,hblk,hfro,hsz,hkk,hcell⟩:=(r.own id g q es hb ho).aZ
 obtain⟨v,hv,hvr,_⟩:=hcell idx e off _ he hl
 have hvx:v=x:=hvr.bd
 subst hvx
 have hlt:idx*q+off<cs.size:=(Array.getElem?_eq_some_iff.1 hv).1
 refine⟨by simp[World.cell?,hblk,hv],?_⟩
 simp only[World.frozen?,hblk,Bool.and_eq_false_iff,decide_eq_false_iff_not]
 rcases hfro with h|h<;>omega
theorem Rel.setCell{t:TypeId}(ht:bj P t=some 1)(r:Rel w0 im0 c st a w){id g q idx off:Nat}{es:List AV}{e:AV}{v:Value}
 (hb:c.β[id]?=some (some (g,q))) (ho:st.own[id]?=some (some es)) (he:es[idx]?=some e) (hoff:off+1≤e.leaves.length)
 (hcs:v.cells= #[v]) (hone:v.oneCell'=true):
 Rel w0 im0 c { st with own:=st.own.set id (some (es.set idx (fb e off (.v v)))) } a (w.setCell ⟨g,idx*q+off,none⟩ v):=by
 have ha:VR c (.ptr id idx off) (.pointer (some ⟨g,idx*q+off,none⟩)):= .ptr hb
 have hx:VR c (.v v) v:= .base (.v v)
 obtain⟨w',st',h1,h2,h3⟩:=CK (P:=P) r (t:=t) ha hx (K:=fun s=>s={ st with own:=st.own.set id (some (es.set idx (fb e off (.v v)))) })
  ⟨1,es,e,ht,ho,he,hone,by simp[AV.leaves,AV.en,hone],rfl,hoff,rfl⟩
 subst h3
 have hw:w'=w.setCell ⟨g,idx*q+off,none⟩ v:=by
  obtain⟨cs,ty,lo,hi,hblk,hfro,hsz,hkk,hcell⟩:=(r.own id g q es hb ho).aZ
  have hq:=hkk idx e he
  have hidx:idx<es.length:=by
   rcases Nat.lt_or_ge idx es.length with h'|h'
   ·exact h'
   ·rw[List.getElem?_eq_none h'] at he;simp at he
  have hmul:idx*q+q≤es.length*q:=by rw[←Nat.succ_mul];exact Nat.mul_le_mul_right q hidx
  have hfro':∀o,o<cs.toList.length→¬(lo≤o∧o<hi):=fun o h1 h2=>by
   have h1:o<cs.size:=by simpa using h1
   rcases hfro with h|h<;>omega
  have hsz':es.length*q≤cs.toList.length:=by simpa using hsz
  have hrun:=ma (P:=P) g (idx*q+off) ty lo hi [v] 0 cs.toList w (by simpa using hblk) hfro' (by simp;omega) (by simp[hone])
  have hsc:w.setRow g (cn cs.toList (idx*q+off+0) [v]).toArray=w.setCell ⟨g,idx*q+off,none⟩ v:=by
   rw[setCell_eq_setRow w g (idx*q+off) cs ty (lo,hi) v hblk]
   congr 1
   apply Array.ext'
   simp[cn]
  rw[hsc] at hrun
  have hst:(Instr.storeAt t (.pointer (some ⟨g,idx*q+off,none⟩)) v).run P w= .ok () (w.setCell ⟨g,idx*q+off,none⟩ v):=by
   simp only[Instr.storeAt,Instr.sureAddr,storeVar,Sem.run_bind,Sem.run_pure,Result.andThen_ok,dv ht]
   simp[hcs,hrun]
  rw[hst] at h1
  simp only[Result.ok.injEq,true_and] at h1
  exact h1.symm
 rw[←hw]
 exact h2
end
section
variable{E:Env}{Q:Exit→St→Prop}{st:St}{ops:Array Oper}{l:List Oper}
end
end Go.az
end
section
namespace Go.Proofs.YthoonfpkfdjhiaaGreatDoor
open Go Go.az Go.RowKit
set_option maxRecDepth 100000 in
theorem OU{w0:World}{im0:cX}{cx:Ctx}{a:Act}{w:World}{tmps up:List AV}{own:List (Option (List AV))}{tk:List Nat}{gl:Nat→Option (List AV)}{id:Nat}{v:Value}
 (h0:E.ok w0) (hG:jj E im0) (r:Rel w0 im0 cx ⟨tmps,own,tk,gl,none,up⟩ a w) (hv:VR cx (.ptr id 0 0) v)
 (ho:own[id]?=some (some [bH 0 1 0])) (hbu:(tmps++up).all (AV.bw own.length tk.length)=true) (hbo:dA own own.length tk.length) {K:St→AV→Prop} (hK:K ⟨tmps,own.set id (some [bH 0 1 256]),tk,gl,none,up⟩ (.ax [])):
 Calls E.P 215 #[v] w fun e w'=>∃z,e= .returned z∧∃cx' s y,Rel w0 im0 cx' s a w'∧VR cx' y z∧K s y:=by
 have hargs:Pw cx [AV.ptr id 0 0] [v]:=⟨rfl,fun i x u h1 h2=>by
  cases i with
  |zero=>simp only[List.getElem?_cons_zero,Option.some.injEq] at h1 h2;subst h1;subst h2;exact hv
  |succ i=>simp at h1⟩
 refine F7 (ys:=[.ptr id 0 0]) (vs:=[v]) (rs:=[]) (K:=K) h0 hG r Tryz.func215 rfl rfl rfl hargs ?_
 show aa E _ _ ⟨[.ptr id 0 0]++List.replicate (28-1) (.v undef),own,tk,gl,none,tmps++up⟩
 have hB0:∀(tm:List AV) (ow:List (Option (List AV))) ,ow=own.set id (some [bH 0 1 256])→bW E.P [] ⟨tmps,own,tk,gl,none,up⟩ K .normal ⟨tm,ow,tk,gl,none,tmps++up⟩:=by
  intro tm ow how
  rw[how]
  exact⟨rfl,hK⟩
 generalize bW E.P [] ⟨tmps,own,tk,gl,none,up⟩ K=Q' at hB0 ⊢
 generalize tmps++up=up' at hbu hB0 ⊢
 have hidl:id<own.length:=(List.getElem?_eq_some_iff.1 ho).1
 have hset:∀x:Option (List AV),(own.set id x)[id]?=some x:=fun x=>by rw[List.getElem?_set_self hidl]
 have h0eq:own.set id (some [bH 0 1 0])=own:=by
  obtain⟨h1,h2⟩:=List.getElem?_eq_some_iff.1 ho
  rw[←h2,List.set_getElem_self]
 have hbt:∀i:Nat,dA (own.set id (some [bH 0 1 i])) own.length tk.length:=fun i=>hbo.set (fun e he z hz=>pZ he hz)
 have hbi:∀i:Nat,gn own.length tk.length (own.set id (some [bH 0 1 i])) (own.set id (some [bH 0 1 i])):=fun i=>dA.wk (hbt i)
 have hw0:gn own.length tk.length own (own.set id (some [bH 0 1 0])):=by rw[h0eq];exact dA.wk hbo
 refine aa.ah fun K hK=>?_
 refine aa.region ?_;simp only[go_sem,ho]
 refine hK _ ?_;clear hK K
 refine aa.block ?_
 refine aa.dT (ι:=Nat) [2,3,4,6,7,8,9,10,11,12,13,14,15,16,17,18,19,20,21,22,23,24,25,26,27] (fun(i:Nat)=>[(5,i64 i)]) (fun(i:Nat)=>own.set id (some [bH 0 1 i])) (fun(i:Nat)=>tk) (fun(i:Nat)=>i≤256) (fun(i:Nat)=>256-i) (0) ?_ ?_ ?_
 ·(try simp only[go_sem,List.length_set]);(repeat'(first|assumption|exact qa|exact .inr (decide_eq_true hidl)|refine And.intro ?_ ?_))
 ·omega
 rintro i h1
 simp only[go_sem,ho,hset,List.length_set]
 repeat'(first
 |refine aa.ah fun K hK=>?_
 |(refine aa.region ?_;simp only[go_sem,ho,hset,List.length_set,qX])
 |(refine hK _ ?_;clear hK K)
 |refine aa.block ?_
 |refine aa.cond rfl (fun c=>?_) (fun c=>?_)<;>(try simp only[dD] at c)
 |refine aa.skip ?_
 |(refine aa.exit ?_;simp only[go_sem,ho,hset,List.length_set])
 |(
  refine aa.here 5 11 1 rfl ?_
  refine aa.dT (ι:=Nat) [4,11,12,13,14,15,16,17,18,19,20] (fun(j:Nat)=>[(10,i64 j),(3,eu (Kp.eU j (BitVec.ofNat 32 i)))]) (fun(j:Nat)=>own.set id (some [bH 0 1 i])) (fun(j:Nat)=>tk) (fun(j:Nat)=>j≤8) (fun(j:Nat)=>8-j) (0) ?_ ?_ ?_
  ·rw[KX ab];(try simp only[go_sem,List.length_set]);(repeat'(first|assumption|exact hbi _|exact qa|exact .inr (decide_eq_true hidl)|refine And.intro ?_ ?_|exact .inr rfl))
  ·omega
  rintro j h2
  simp only[go_sem,ho,hset,List.length_set])
 |exact⟨j+1,⟨⟨.inr (decide_eq_true hidl),.inr (UN af),.inr (uQ ab)⟩,hbi _,qa,hbu⟩,by omega,by omega⟩
 |exact⟨j+1,⟨⟨.inr (decide_eq_true hidl),.inr (Mm af),.inr (uQ ab)⟩,hbi _,qa,hbu⟩,by omega,by omega⟩
 |exact⟨i+1,⟨⟨.inr (decide_eq_true hidl),.inr (uQ ab)⟩,hbi _,qa,hbu⟩,by omega,by omega⟩
 |(
  obtain rfl:j=8:=by omega
  refine⟨by omega,(by show 3+i+1≤(bH 0 1 i).leaves.length;rw[rA];omega),?_⟩
  rw[List.set_set]
  have hst:(if 3+i=0∧1=(bH 0 1 i).leaves.length then eu (Kp.eU 8 (BitVec.ofNat 32 i)) else AV.agg ((bH 0 1 i).leaves.set (3+i) (eu (Kp.eU 8 (BitVec.ofNat 32 i)))))=bH 0 1 (i+1):=Zp ab
  refine RP af ?_
  have hown:own.set id (some [(if 3+i=0∧1=(bH 0 1 i).leaves.length then eu (Kp.eU 8 (BitVec.ofNat 32 i)) else AV.agg ((bH 0 1 i).leaves.set (3+i) (eu (Kp.eU 8 (BitVec.ofNat 32 i)))))])=own.set id (some [bH 0 1 (i+1)]):=by rw[hst]
  refine hown ▸ ?_)
 |refine aa.fin af ?_
 |(exact hB0 _ _ (by rw[show i=256 by omega])))
theorem Zo:fb (bH 0 1 256) 0 (.v (.int .u32 1))=bH 1 1 256:=by
 have h:¬(0=0∧(AV.v (Value.int IntKind.u32 1)).leaves.length=(bH 0 1 256).leaves.length):=by
  rw[rA];rintro⟨_,h⟩;exact absurd h aj
 unfold fb;rw[if_neg h];rfl
theorem ZQ{c:Ctx}{z:Value}(h:VR c (.ax []) z):z= .tuple #[]:=by
 obtain⟨vs,rfl,hl,_⟩:=h.nV
 have:vs=[]:=List.eq_nil_of_length_eq_zero (by simpa using hl)
 subst this;rfl
theorem dm{tmps:List AV}{own:List (Option (List AV))}{tk:List Nat}{gl:Nat→Option (List AV)}{up:List AV}{d:Tmp}{x:AV}:St.put ⟨tmps,own,tk,gl,none,up⟩ (some d) x=⟨tmps.set d x,own,tk,gl,none,up⟩:=rfl
set_option maxRecDepth 100000 in
theorem al.LA{Q:Exit→St→Prop}{ops:Array Oper}{l:List Oper}{tmps up:List AV}{own:List (Option (List AV))}{tk:List Nat}{gl:Nat→Option (List AV)}{id:Nat}{d:Tmp}{dst:Option Tmp}{p x:Operand}{tys:Array TypeId}{ty ty2:TypeId}{pos pos2:String}{after after2:Array Edge}
 (hp0:St.ev ⟨tmps,own,tk,gl,none,up⟩ p= .ptr id 0 0) (hx:St.ev ⟨tmps,own,tk,gl,none,up⟩ x= .ptr id 0 0) (hd:d<tmps.length)
 (hpd:St.ev ⟨tmps.set d .any,own,tk,gl,none,up⟩ p= .ptr id 0 0)
 (ho:own[id]?=some (some [bH 0 0 0])) (hbu:(tmps.set d .any++up).all (AV.bw own.length tk.length)=true) (hbo:dA own own.length tk.length)
 (h:al E ops l Q (St.put ⟨tmps.set d .any,own.set id (some [bH 1 0 256]),tk,gl,none,up⟩ dst (.ax []))):
 al E ops (⟨some d,.makeFunc (.func 215) #[x] #[],ty,pos,after,none⟩::⟨dst,.call ⟨.value (.func 214),#[p,.tmp d],tys⟩,ty2,pos2,after2,none⟩::l) Q ⟨tmps,own,tk,gl,none,up⟩:=by
 refine al.ya ae hd (by rw[dm,hpd,hp0]) fun w0 im0 cx a w pv rv h0 hG r hpe hpv hrv=>?_
 rw[dm] at r
 rw[hp0] at hpv
 rw[hx] at hrv
 obtain⟨g,q,hb,rfl⟩:=hpv.gW
 obtain⟨g1,q1,hb1,rfl⟩:=hrv.gW
 rw[hb] at hb1
 simp only[Option.some.injEq,Prod.mk.injEq] at hb1
 obtain⟨rfl,rfl⟩:=hb1
 have hidl:id<own.length:=(List.getElem?_eq_some_iff.1 ho).1
 obtain⟨c0,f0⟩:=r.q5 hb ho (idx:=0) (off:=0) rfl rfl
 obtain⟨c1,f1⟩:=r.q5 hb ho (idx:=0) (off:=1) rfl rfl
 have r1:=r.setCell (P:=E.P) (t:=21) ae hb ho (idx:=0) (off:=1) (v:= .int .i32 1) rfl (by rw[rA];omega) rfl rfl
 have e1:([bH 0 0 0].set 0 (fb (bH 0 0 0) 1 (.v (.int .i32 1))))=[bH 0 1 0]:=by
  show[fb (bH 0 0 0) 1 (.v (.int .i32 1))]=_
  unfold fb
  rw[if_neg ab];rfl
 rw[e1] at r1
 have ho1:(own.set id (some [bH 0 1 0]))[id]?=some (some [bH 0 1 0]):=by rw[List.getElem?_set_self hidl]
 have hbo1:dA (own.set id (some [bH 0 1 0])) own.length tk.length:=hbo.set (fun e he z hz=>pZ he hz)
 have hadr:∀(cx':Ctx) (w2:World),Rel w0 im0 cx' ⟨tmps.set d .any,own.set id (some [bH 0 1 256]),tk,gl,none,up⟩ a w2→∃q2,cx'.β[id]?=some (some (g,q2)):=by
  intro cx' w2 r2
  have h1:=r2.ev p
  have h2:St.ev ⟨tmps.set d .any,own.set id (some [bH 0 1 256]),tk,gl,none,up⟩ p= .ptr id 0 0:=by rw[←hpd];cases p<;>rfl
  rw[h2,←hpe] at h1
  obtain⟨g',q',hb',e⟩:=h1.gW
  simp only[Value.pointer.injEq,Option.some.injEq,Addr.mk.injEq] at e
  obtain⟨rfl,_⟩:=e
  exact⟨q',hb'⟩
 have hf:=OU (K:=fun s z=>s=⟨tmps.set d .any,(own.set id (some [bH 0 1 0])).set id (some [bH 0 1 256]),tk,gl,none,up⟩∧z= .ax []) h0 hG r1 (.ptr hb) ho1 (by rw[List.length_set];exact hbu) (by rw[List.length_set];exact hbo1) ⟨rfl,rfl⟩
 rw[List.set_set] at hf
 have hdo:=L5 g (0*q+0) ⟨g,0*q+0,none⟩ (fun w2=>∃cx',Rel w0 im0 cx' ⟨tmps.set d .any,own.set id (some [bH 0 1 256]),tk,gl,none,up⟩ a w2) w c0 c1 f1
  (hf.mono (by
    rintro e w' ⟨z,rfl,cx',s,y,r',hy,rfl,rfl⟩
    obtain rfl:z= .tuple #[]:=ZQ hy
    exact⟨rfl,cx',r'⟩)) (fun w2 ⟨cx',r2⟩=>by
    obtain⟨q2,hb2⟩:=hadr cx' w2 r2
    have ho2:(own.set id (some [bH 0 1 256]))[id]?=some (some [bH 0 1 256]):=by rw[List.getElem?_set_self hidl]
    obtain⟨d0,z0⟩:=r2.q5 hb2 ho2 (idx:=0) (off:=0) rfl rfl
    obtain⟨d1,z1⟩:=r2.q5 hb2 ho2 (idx:=0) (off:=1) rfl rfl
    simp only[Nat.zero_mul] at d0 d1 z0 z1 ⊢
    exact⟨d0,d1,z0,z1⟩)
 refine hdo.mono ?_
 rintro e w' ⟨rfl,w2,⟨cx',r2⟩,rfl⟩
 obtain⟨q2,hb2⟩:=hadr cx' w2 r2
 have ho2:(own.set id (some [bH 0 1 256]))[id]?=some (some [bH 0 1 256]):=by rw[List.getElem?_set_self hidl]
 have r3:=r2.L9.setCell (P:=E.P) (t:=203) ae hb2 ho2 (idx:=0) (off:=0) (v:= .int .u32 1) rfl (by rw[rA];omega) rfl rfl
 have e3:([bH 0 1 256].set 0 (fb (bH 0 1 256) 0 (.v (.int .u32 1))))=[bH 1 1 256]:=by
  show[fb (bH 0 1 256) 0 (.v (.int .u32 1))]=_
  rw[Zo]
 rw[e3,List.set_set] at r3
 have ho3:(own.set id (some [bH 1 1 256]))[id]?=some (some [bH 1 1 256]):=by rw[List.getElem?_set_self hidl]
 have r4:=r3.setCell (P:=E.P) (t:=21) ae hb2 ho3 (idx:=0) (off:=1) (v:= .int .i32 0) rfl (by rw[rA];omega) rfl rfl
 have e4:([bH 1 1 256].set 0 (fb (bH 1 1 256) 1 (.v (.int .i32 0))))=[bH 1 0 256]:=by
  show[fb (bH 1 1 256) 1 (.v (.int .i32 0))]=_
  unfold fb
  rw[if_neg ab];rfl
 rw[e4,List.set_set] at r4
 simp only[Nat.zero_mul] at r4 ⊢
 exact⟨_,rfl,cx',_,.ax [],r4,.base (.ax [] [] rfl aB),h⟩
theorem yS{a b c:AV}{l:List AV}{n:Nat}:List.drop (3+n) (a::b::c::l)=List.drop n l:=by
 rw[show 3+n=n+1+1+1 by omega];rfl
theorem yV{l:List AV}{n:Nat}:(List.drop n l)[0]?=l[n]?:=by rw[List.getElem?_drop,Nat.add_zero]
theorem CM(b:UInt8):(k9 256)[b.toNat]?=some (eu (Kp.jc (BitVec.ofNat 32 b.toNat))):=by
 have:=b.toNat_lt
 rw[tL ab,if_pos ab]
theorem Dl(b:UInt8):((b.toNat:Int)<256)=True:=by have:=b.toNat_lt;simp;omega
set_option maxRecDepth 100000 in
theorem al.LB{Q:Exit→St→Prop}{ops:Array Oper}{l:List Oper}{tmps up:List AV}{own:List (Option (List AV))}{tk:List Nat}{gl:Nat→Option (List AV)}{id:Nat}{d:Tmp}{dst:Option Tmp}{p x:Operand}{tys:Array TypeId}{ty ty2:TypeId}{pos pos2:String}{after after2:Array Edge}
 (hp0:St.ev ⟨tmps,own,tk,gl,none,up⟩ p= .ptr id 0 0) (hx:St.ev ⟨tmps,own,tk,gl,none,up⟩ x= .ptr id 0 0) (hd:d<tmps.length)
 (hpd:St.ev ⟨tmps.set d .any,own,tk,gl,none,up⟩ p= .ptr id 0 0)
 (ho:own[id]?=some (some [bH 1 0 256])) (hbu:(tmps.set d .any++up).all (AV.bw own.length tk.length)=true) (hbo:dA own own.length tk.length)
 (h:al E ops l Q (St.put ⟨tmps.set d .any,own,tk,gl,none,up⟩ dst (.ax []))):
 al E ops (⟨some d,.makeFunc (.func 215) #[x] #[],ty,pos,after,none⟩::⟨dst,.call ⟨.value (.func 214),#[p,.tmp d],tys⟩,ty2,pos2,after2,none⟩::l) Q ⟨tmps,own,tk,gl,none,up⟩:=by
 refine al.ya ae hd (by rw[dm,hpd,hp0]) fun w0 im0 cx a w pv rv h0 hG r hpe hpv hrv=>?_
 rw[dm] at r
 rw[hp0] at hpv
 obtain⟨g,q,hb,rfl⟩:=hpv.gW
 obtain⟨c0,f0⟩:=r.q5 hb ho (idx:=0) (off:=0) rfl rfl
 refine(L3 ⟨g,0*q+0,none⟩ 1 aj _ w c0).mono ?_
 rintro e w' ⟨rfl,rfl⟩
 exact⟨_,rfl,cx,_,.ax [],r,.base (.ax [] [] rfl aB),h⟩
set_option maxRecDepth 100000 in
theorem UO{ops:Array Oper}{l0:List Oper}{Q:Exit→St→Prop}{tmps up:List AV}{gl:Nat→Option (List AV)}{own:List (Option (List AV))}{tk:List Nat}{dst:Option Tmp}{x0 x1:Operand}{tys:Array TypeId}{ty:TypeId}{pos:String}{after:Array Edge}{id:Nat}{b:UInt8}
 (hx0:St.ev ⟨tmps,own,tk,gl,none,up⟩ x0= .ptr id 0 0)
 (hx1:St.ev ⟨tmps,own,tk,gl,none,up⟩ x1=u8 b)
 (ho:own[id]?=some (some [bH 0 0 0])) (hbu:(tmps++up).all (AV.bw own.length tk.length)=true) (hbo:dA own own.length tk.length)
 (h0:al E ops l0 Q (St.put ⟨tmps,own.set id (some [bH 1 0 256]),tk,gl,none,up⟩ dst (eu (Kp.jc (BitVec.ofNat 32 b.toNat))))):
 al E ops (⟨dst,.call ⟨.value (.func 178),#[x0,x1],tys⟩,ty,pos,after,none⟩::l0) Q ⟨tmps,own,tk,gl,none,up⟩:=by
 refine al.call (caps:=[]) (rs:=[.tmp 4]) Tryz.func178 rfl Tryz.ntmps178 rfl ae rfl rfl ?_
 show aa E _ _ ⟨([St.ev _ x0,St.ev _ x1]++[])++List.replicate (17-2) (.v undef),own,tk,gl,none,tmps++up⟩
 rw[hx0,hx1]
 have hB0:∀(tm:List AV) (ow:List (Option (List AV))) (u0:AV),ow=own.set id (some [bH 1 0 256])→tm[4]?=some u0→u0=eu (Kp.jc (BitVec.ofNat 32 b.toNat))→bW E.P [.tmp 4] ⟨tmps,own,tk,gl,none,up⟩ (fun s z=>al E ops l0 Q (s.put dst z)) .ret ⟨tm,ow,tk,gl,none,tmps++up⟩:=by
  intro tm ow u0   how hu0 eu0
  rw[how];rw[eu0] at hu0
  refine⟨rfl,?_⟩
  have gu0:St.ev ⟨tm,own.set id (some [bH 1 0 256]),tk,gl,none,tmps++up⟩ (.tmp 4)=eu (Kp.jc (BitVec.ofNat 32 b.toNat)):=by simp[St.ev,List.getD_eq_getElem?_getD,hu0]
  show al E ops l0 Q (St.put _ dst (fB [St.ev _ (.tmp 4)]))
  rw[gu0]
  exact h0
 generalize bW E.P [.tmp 4] ⟨tmps,own,tk,gl,none,up⟩ (fun s z=>al E ops l0 Q (s.put dst z))=Q' at hB0 ⊢
 generalize tmps++up=up' at hbu hB0 ⊢
 clear h0 hx0 hx1
 have hset:∀x:Option (List AV),(own.set id x)[id]?=some x:=fun x=>by rw[List.getElem?_set_self (bO ho)]
 repeat'(first
 |(
  refine aa.here 1 5 6 rfl ?_
  refine aa.aW ?_
  refine al.at 6 4 rfl ?_
  simp only[go_sem,ho,hset,List.length_set]
  refine al.LA (id:=id) rfl rfl aB rfl af (by simpa[AV.bw,AV.gR,AV.ei,bO ho] using hbu) hbo ?_
  simp only[go_sem,ho,hset,List.length_set]
  refine al.of ?_
  simp only[go_sem,ho,hset,List.length_set])
 |refine aa.ah fun K hK=>?_
 |(
  refine aa.here 2 11 7 rfl ?_
  refine aa.region ?_;simp only[go_sem,ho,hset,List.length_set,bH,yS,yV,CM,Dl,true_and])
 |(refine aa.region ?_;simp only[go_sem,ho,hset,List.length_set])
 |(refine hK _ ?_;clear hK K)
 |(
  refine aa.ret ?_
  (try simp only[fZ,fU])
  exact hB0 _ _ _ rfl rfl rfl))
set_option maxRecDepth 100000 in
theorem UP{ops:Array Oper}{l0:List Oper}{Q:Exit→St→Prop}{tmps up:List AV}{gl:Nat→Option (List AV)}{own:List (Option (List AV))}{tk:List Nat}{dst:Option Tmp}{x0 x1:Operand}{tys:Array TypeId}{ty:TypeId}{pos:String}{after:Array Edge}{id:Nat}{b:UInt8}
 (hx0:St.ev ⟨tmps,own,tk,gl,none,up⟩ x0= .ptr id 0 0)
 (hx1:St.ev ⟨tmps,own,tk,gl,none,up⟩ x1=u8 b)
 (ho:own[id]?=some (some [bH 1 0 256])) (hbu:(tmps++up).all (AV.bw own.length tk.length)=true) (hbo:dA own own.length tk.length)
 (h0:al E ops l0 Q (St.put ⟨tmps,own,tk,gl,none,up⟩ dst (eu (Kp.jc (BitVec.ofNat 32 b.toNat))))):
 al E ops (⟨dst,.call ⟨.value (.func 178),#[x0,x1],tys⟩,ty,pos,after,none⟩::l0) Q ⟨tmps,own,tk,gl,none,up⟩:=by
 refine al.call (caps:=[]) (rs:=[.tmp 4]) Tryz.func178 rfl Tryz.ntmps178 rfl ae rfl rfl ?_
 show aa E _ _ ⟨([St.ev _ x0,St.ev _ x1]++[])++List.replicate (17-2) (.v undef),own,tk,gl,none,tmps++up⟩
 rw[hx0,hx1]
 have hB0:∀(tm:List AV) (ow:List (Option (List AV))) (u0:AV),ow=own→tm[4]?=some u0→u0=eu (Kp.jc (BitVec.ofNat 32 b.toNat))→bW E.P [.tmp 4] ⟨tmps,own,tk,gl,none,up⟩ (fun s z=>al E ops l0 Q (s.put dst z)) .ret ⟨tm,ow,tk,gl,none,tmps++up⟩:=by
  intro tm ow u0   how hu0 eu0
  rw[how];rw[eu0] at hu0
  refine⟨rfl,?_⟩
  have gu0:St.ev ⟨tm,own,tk,gl,none,tmps++up⟩ (.tmp 4)=eu (Kp.jc (BitVec.ofNat 32 b.toNat)):=by simp[St.ev,List.getD_eq_getElem?_getD,hu0]
  show al E ops l0 Q (St.put _ dst (fB [St.ev _ (.tmp 4)]))
  rw[gu0]
  exact h0
 generalize bW E.P [.tmp 4] ⟨tmps,own,tk,gl,none,up⟩ (fun s z=>al E ops l0 Q (s.put dst z))=Q' at hB0 ⊢
 generalize tmps++up=up' at hbu hB0 ⊢
 clear h0 hx0 hx1
 have hset:∀x:Option (List AV),(own.set id x)[id]?=some x:=fun x=>by rw[List.getElem?_set_self (bO ho)]
 repeat'(first
 |(
  refine aa.here 1 5 6 rfl ?_
  refine aa.aW ?_
  refine al.at 6 4 rfl ?_
  simp only[go_sem,ho,hset,List.length_set]
  refine al.LB (id:=id) rfl rfl aB rfl af (by simpa[AV.bw,AV.gR,AV.ei,bO ho] using hbu) hbo ?_
  simp only[go_sem,ho,hset,List.length_set]
  refine al.of ?_
  simp only[go_sem,ho,hset,List.length_set])
 |refine aa.ah fun K hK=>?_
 |(
  refine aa.here 2 11 7 rfl ?_
  refine aa.region ?_;simp only[go_sem,ho,hset,List.length_set,bH,yS,yV,CM,Dl,true_and])
 |(refine aa.region ?_;simp only[go_sem,ho,hset,List.length_set])
 |(refine hK _ ?_;clear hK K)
 |(
  refine aa.ret ?_
  (try simp only[fZ,fU])
  exact hB0 _ _ _ rfl rfl rfl))
def tD(d:Bool):AV:=bif d then bH 1 0 256 else bH 0 0 0
theorem DK:eu (List.foldl Kp.jI (BitVec.allOnes 32) ([]:List (List UInt8)).flatten)=AV.v (.int .u32 4294967295):=by
 show AV.v (.int .u32 ((BitVec.allOnes 32).toNat:Int))=_
 rw[show((BitVec.allOnes 32).toNat:Int)=4294967295 by decide]
theorem Zi{d:Bool}{no nt:Nat}:dA [some [tD d]] no nt:=by
 cases d
 ·exact dA.cons (fun es h e he z hz=>by cases h;exact pZ he hz) dA.nil
 ·exact dA.cons (fun es h e he z hz=>by cases h;exact pZ he hz) dA.nil
theorem CR{d:Bool}{no nt:Nat}{x:Option (List AV)}(h:some [tD d]=x):some [tD d]=none∨some [tD d]=x∧∀es,x=some es→∀e∈es,∀z∈e.leaves,z.bw no nt=true:=
 .inr ⟨h,fun es he e hm z hz=>by
  subst h;cases he
  cases d
  ·exact pZ (d:=0) (l:=0) (i:=0) hm hz
  ·exact pZ (d:=1) (l:=0) (i:=256) hm hz⟩
theorem w9{d:Bool}{no nt:Nat}:some [tD d]=none∨∀es,some [tD d]=some es→∀e∈es,∀z∈e.leaves,z.bw no nt=true:=(CR (no:=no) (nt:=nt) (rfl:some [tD d]=some [tD d])).imp id fun h=>h.2
theorem ve{l:List (List UInt8)}{i j:Nat}{x:List UInt8}{s0:BitVec 32}(hx:l[i]?=some x)(hj:¬(j:Int)<(x.length:Int)):
 ((l.take (i+1)).flatten.foldl Kp.jI s0)=(x.take j).foldl Kp.jI ((l.take i).flatten.foldl Kp.jI s0):=by
 rw[List.take_add_one,hx,Option.toList_some,List.flatten_append,List.foldl_append,show x.take j=x from List.take_of_length_le ab]
 simp
theorem Uz(s:BitVec 32):IntKind.u32.wrap ((BitVec.ofInt 32 (if IntKind.u32.signed=true then -1 else IntKind.u32.max) ^^^ BitVec.ofInt 32 (s.toNat:Int)).toNat:Int)=((~~~ s).toNat:Int):=by
 have e:BitVec.ofInt 32 (if IntKind.u32.signed=true then -1 else IntKind.u32.max)=BitVec.allOnes 32:=by decide
 rw[qX,xu,e,BitVec.allOnes_xor]
theorem Yy{l:List (List UInt8)}{i:Nat}(h:¬(i:Int)<(l.length:Int)):IntKind.u32.wrap ((BitVec.ofInt 32 (if IntKind.u32.signed=true then -1 else IntKind.u32.max) ^^^ BitVec.ofInt 32 (((l.take i).flatten.foldl Kp.jI (BitVec.allOnes 32)).toNat:Int)).toNat:Int)=((Kp.iG l.flatten).toNat:Int):=by
 rw[Uz,List.take_of_length_le ab];rfl
def pr(s:BitVec 32)(b:UInt8):UInt8:=UInt8.ofNat ((s ^^^ BitVec.ofNat 32 b.toNat) &&& 255#32).toNat
theorem US{ops:Array Oper}{l0:List Oper}{Q:Exit→St→Prop}{tmps up:List AV}{gl:Nat→Option (List AV)}{own:List (Option (List AV))}{tk:List Nat}{dst:Option Tmp}{x0 x1:Operand}{tys:Array TypeId}{ty:TypeId}{pos:String}{after:Array Edge}{id:Nat}{b:UInt8}{d:Bool}
 (hx0:St.ev ⟨tmps,own,tk,gl,none,up⟩ x0= .ptr id 0 0) (hx1:St.ev ⟨tmps,own,tk,gl,none,up⟩ x1=u8 b)
 (ho:own[id]?=some (some [tD d])) (hbu:(tmps++up).all (AV.bw own.length tk.length)=true) (hbo:dA own own.length tk.length)
 (h0:al E ops l0 Q (St.put ⟨tmps,own.set id (some [tD true]),tk,gl,none,up⟩ dst (eu (Kp.jc (BitVec.ofNat 32 b.toNat))))):
 al E ops (⟨dst,.call ⟨.value (.func 178),#[x0,x1],tys⟩,ty,pos,after,none⟩::l0) Q ⟨tmps,own,tk,gl,none,up⟩:=by
 cases d
 ·exact UO hx0 hx1 ho hbu hbo h0
 ·refine UP hx0 hx1 ho hbu hbo ?_
  have e:own.set id (some [tD true])=own:=by
   obtain⟨h1,h2⟩:=List.getElem?_eq_some_iff.1 ho
   rw[←h2,List.set_getElem_self]
  rw[e] at h0;exact h0
theorem abN(s:BitVec 32)(b:UInt8):AV.v (.int .u8 (IntKind.u8.wrap ((BitVec.ofInt 8 (IntKind.u8.wrap (s.toNat:Int)) ^^^ BitVec.ofInt 8 (b.toNat:Int)).toNat:Int)))=u8 (pr s b):=by
 have hb:=b.toNat_lt
 have hw:∀n:Nat,IntKind.u8.wrap (n:Int)=((n%256:Nat):Int):=by
  intro n
  simp only[IntKind.wrap,IntKind.bits,IntKind.signed,Bool.false_and,Bool.false_eq_true,if_false]
  omega
 have ho:∀n:Nat,(BitVec.ofInt 8 (n:Int)).toNat=n%256:=by intro n;simp
 have h3:(BitVec.ofInt 8 (IntKind.u8.wrap (s.toNat:Int)) ^^^ BitVec.ofInt 8 (b.toNat:Int)).toNat=(s.toNat ^^^ b.toNat)%256:=by
  rw[BitVec.toNat_xor,hw,ho,ho,Nat.mod_mod,show(256:Nat)=2^8 by rfl,Nat.xor_mod_two_pow]
 have h4:(pr s b).toNat=(s.toNat ^^^ b.toNat)%256:=by
  unfold pr
  rw[BitVec.toNat_and,BitVec.toNat_xor,BitVec.toNat_ofNat,Nat.mod_eq_of_lt (show b.toNat<2^32 by omega),show(255#32).toNat=2^8-1 by rfl,Nat.and_two_pow_sub_one_eq_mod]
  simp
 rw[h3,hw,Nat.mod_mod,←h4];rfl
theorem QC(s:BitVec 32)(b:UInt8):BitVec.ofNat 32 (pr s b).toNat=(s ^^^ BitVec.ofNat 32 b.toNat) &&& 255#32:=by
 unfold pr
 apply BitVec.eq_of_toNat_eq
 have h:((s ^^^ BitVec.ofNat 32 b.toNat) &&& 255#32).toNat<256:=by
  rw[BitVec.toNat_and,show(255#32).toNat=2^8-1 by rfl,Nat.and_two_pow_sub_one_eq_mod];omega
 rw[BitVec.toNat_ofNat]
 simp only[UInt8.toNat_ofNat']
 omega
theorem MI(x:BitVec 32):((x.toNat:Int)).fdiv (2^min 8 32)=((x >>> 8).toNat:Int):=by
 rw[BitVec.toNat_ushiftRight,Nat.shiftRight_eq_div_pow,Int.fdiv_eq_ediv_of_nonneg _ aj]
 rfl
theorem abe{x:List UInt8}{j:Nat}{b:UInt8}{s0:BitVec 32}(hb:x[j]?=some b):
 eu ((x.take (j+1)).foldl Kp.jI s0)=AV.v (.int .u32 (IntKind.u32.wrap ((BitVec.ofInt 32 ((((x.take j).foldl Kp.jI s0).toNat:Int).fdiv (2^min 8 32)) ^^^ BitVec.ofInt 32 ((Kp.jc (BitVec.ofNat 32 (pr ((x.take j).foldl Kp.jI s0) b).toNat)).toNat:Int)).toNat:Int))):=by
 rw[MI,qX,qX,xu,QC,List.take_add_one,hb,Option.toList_some,List.foldl_append]
 rfl
theorem CL(l:List (List UInt8))(hl:l.length≤1000)(hs:∀p∈l,p.length≤100000):ai E 137 [.sl none 1 (l.map aU)] (fun r t=>r=eu (Kp.iG l.flatten)∧t=[]):=by
 refine ai.aC (n:=33) (rs:=[.tmp 2]) Tryz.func137 rfl Tryz.ntmps137 rfl ?_
 repeat'(first
 |(
  refine aa.here 9 21 9 rfl ?_
  refine aa.aW ?_
  refine al.at 9 6 rfl ?_
  simp only[go_sem]
  refine US (id:=0) (d:=d) rfl (abN _ _) rfl rfl Zi ?_
  simp only[go_sem]
  refine al.of ?_
  simp only[go_sem])
 |refine aa.ah fun K hK=>?_
 |(
  refine aa.here 5 13 3 rfl ?_
  obtain⟨x,hx⟩:∃x,l[i]?=some x:=⟨_,List.getElem?_eq_getElem ab⟩
  have hxl:=hs x (List.mem_of_getElem? hx)
  refine aa.region ?_;simp only[go_sem,hx,Option.map_some,List.getElem?_map])
 |(refine aa.region ?_;simp only[go_sem])
 |(refine hK _ ?_;clear hK K)
 |refine aa.block ?_
 |refine aa.cond rfl (fun c=>?_) (fun c=>?_)<;>(try simp only[dD] at c)
 |refine aa.skip ?_
 |(refine aa.exit ?_;simp only[go_sem])
 |((first|refine aQ.nth ?_ (fun b hb=>?_)|with_reducible refine And.intro ?_ ?_);(focus(first|omega|(simp;done)));(try simp only[hb,go_sem]))
 |(
  refine aa.here 4 12 1 rfl ?_
  refine aa.dT (ι:=Nat×Bool) [6,8,12,13,14,15,16,17,18,19,20,21,22,23,24,25,26,27,28,29,30] (fun⟨i,d⟩=>[(11,i64 i),(4,eu ((l.take i).flatten.foldl Kp.jI (BitVec.allOnes 32)))]) (fun⟨i,d⟩=>[some [tD d]]) (fun⟨i,d⟩=>[]) (fun⟨i,d⟩=>i≤l.length) (fun⟨i,d⟩=>l.length-i) ((0,false)) ?_ ?_ ?_
  ·(try simp only[go_sem]);(try simp only[go_sem]);(repeat'(first|exact .inr DK|exact CR rfl|refine And.intro ?_ ?_))
  ·exact Nat.zero_le _
  rintro⟨i,d⟩ h1
  simp only[go_sem])
 |(
  refine aa.here 7 18 1 rfl ?_
  refine aa.dT (ι:=Nat×Bool) [8,18,19,20,21,22,23,24,25,26,27,28,29] (fun⟨j,d⟩=>[(17,i64 j),(4,eu ((x.take j).foldl Kp.jI ((l.take i).flatten.foldl Kp.jI (BitVec.allOnes 32))))]) (fun⟨j,d⟩=>[some [tD d]]) (fun⟨j,d⟩=>[]) (fun⟨j,d⟩=>j≤x.length) (fun⟨j,d⟩=>x.length-j) ((0,d)) ?_ ?_ ?_
  ·(try simp only[go_sem]);(try simp only[go_sem]);(repeat'(first|exact w9|refine And.intro ?_ ?_|exact .inr rfl))
  ·exact Nat.zero_le _
  rintro⟨j,d⟩ h2
  simp only[go_sem])
 |(
  refine⟨(i+1,d),?_,?_,?_⟩
  ·(try simp only[go_sem]);(try rw[aM ab ab]);(try simp only[go_sem]);(repeat'(first|exact w9|exact .inr (by rw[ve af af])|refine And.intro ?_ ?_|exact .inr rfl))
  ·omega
  ·(try simp only[]);omega)
 |(
  refine⟨(j+1,true),?_,?_,?_⟩
  ·(try simp only[go_sem]);(try rw[aM ab ab]);(try simp only[go_sem]);(repeat'(first|exact w9|exact .inr (abe af)|refine And.intro ?_ ?_|exact .inr rfl))
  ·omega
  ·(try simp only[]);omega)
 |(
  refine aa.ret ?_
  refine aN.is ?_;simp only[go_sem,aI,aH,aG,aK,aJ,aL]<;>(exact Yy ab))
 |refine aa.fin af ?_)
end Go.Proofs.YthoonfpkfdjhiaaGreatDoor
end
section
namespace Go.az
open Go Go.RowKit
theorem al.TC{E:Env}{Q:Exit→St→Prop}{st:St}{ops:Array Oper}{l:List Oper}{dst:Option Tmp}{t ty:TypeId}{pos:String}{after:Array Edge}{x y:Operand}{kl kc:IntKind}{e:TypeId}{k n m:Nat}{zs:List AV}
 (hai:cP E.P t=some (e,k,n)) (hzv:db E.P e=some zs) (hx:st.ev x= .v (.int kl 0)) (hy:st.ev y= .v (.int kc (m:Int))) (hm:m*k≤1000000) (hm2:m≤1000000) (hn:n*m≤1000000000)
 (h:al E ops l Q (St.put { st with tk:=st.tk++[0] } dst (.sl (some st.tk.length) k []))):al E ops (⟨dst,.makeSlice t x y,ty,pos,after,none⟩::l) Q st:=by
 intro w0 im0 cx a w h0 hG r
 refine wpList_step (fun K' hK'=>?_)
 have hw:Region.wanted ⟨dst,.makeSlice t x y,ty,pos,after,none⟩ (yielded ops a.tmps)=true:=rfl
 rw[if_pos hw]
 obtain⟨hu,hs,hk0,i,zv,hi,hz,hsize,hbytes,hzs⟩:=gr hai
 have hzl:zs=zv.cells.toList.map gY∧zs.all AV.en=true:=by
  unfold db at hzv
  simp only[hi,hz,Option.bind_some] at hzv
  split at hzv
  ·rename_i hall
   simp only[Option.some.injEq] at hzv
   exact⟨hzv.symm,by rw[←hzv];exact hall⟩
  ·simp at hzv
 have ex:a.eval x= .int kl 0:=by have:=r.ev x;rw[hx] at this;exact this.bd
 have ey:a.eval y= .int kc (m:Int):=by have:=r.ev y;rw[hy] at this;exact this.bd
 have hsz:m*i.size≤16777216:=by rw[hsize];omega
 have hby:(i.bytes:Int)*(m:Int)≤281474976710656:=by
  rw[hbytes]
  have h2:((n*m:Nat):Int)≤281474976710656:=by omega
  rwa[Int.natCast_mul] at h2
 have hrun:=run_makeSlice (P:=E.P) (w:=w) t e i zv hu hi hz kl kc 0 (m:Int) ab ab (by simpa using hsz) hby ab
 simp only[Int.toNat_natCast] at hrun
 have hlen:zs.length=k:=by rw[hzl.1];simp[hzs]
 have hcells:Cells cx.im k ([]:List AV) (madeCells zv.cells (m*i.size)).toList:=⟨fun j z hj=>by simp at hj,fun j z q u hj hq=>by simp at hj⟩
 obtain⟨c',hle,r2,hv⟩:=r.qU (nE w (.cells (madeCells zv.cells (m*i.size)) e)) (g:=w.heap.size) (k:=k) (cap:=m) (es:=[]) (Nat.le_refl _) (jw w _) (.inl rfl)
  (by rw[size_madeCells,hsize];exact Nat.le_refl _) aB hcells
 simp only[List.length_nil] at r2 hv
 refine eK (w':=w.alloc (.cells (madeCells zv.cells (m*i.size)) e)) (v:= .slice (some ⟨w.heap.size,0,none⟩) 0 m) ?_ (hK' _ _ (h w0 im0 _ _ _ h0 hG (r2.put dst hv)))
 simp only[execOp,ex,ey,Sem.run_bind,hrun,Result.andThen_ok,Sem.run_pure];rfl
end Go.az
end
section
namespace Go.Proofs.YthoonfpkfdjhiaaGreatDoor
open Go Go.az Go.RowKit
theorem w8(n:Nat):IntKind.u8.wrap (n:Int)=((n%256:Nat):Int):=by
 simp only[IntKind.wrap,IntKind.bits,IntKind.signed,Bool.false_and,Bool.false_eq_true,if_false]
 omega
theorem tO(n:Nat):u8 (UInt8.ofNat n)=AV.v (.int .u8 ((n%256:Nat):Int)):=by
 show AV.v (.int .u8 (((UInt8.ofNat n).toNat:Nat):Int))=_
 rw[Kp.p6]
theorem u4(n k:Nat):((n:Nat):Int).fdiv (2^k)=((n/2^k:Nat):Int):=by
 rw[Int.fdiv_eq_ediv_of_nonneg _ (Int.pow_nonneg aj)];simp
theorem Fh(x:BitVec 32):[AV.v (.int .u8 (IntKind.u8.wrap ((x.toNat:Int).fdiv (2^min 24 32)))),AV.v (.int .u8 (IntKind.u8.wrap ((x.toNat:Int).fdiv (2^min 16 32)))),AV.v (.int .u8 (IntKind.u8.wrap ((x.toNat:Int).fdiv (2^min 8 32)))),AV.v (.int .u8 (IntKind.u8.wrap (x.toNat:Int)))]=(Kp.se x).map u8:=by
 rw[show min 24 32=24 by rfl,show min 16 32=16 by rfl,show min 8 32=8 by rfl,u4,u4,u4,w8,w8,w8,w8]
 show _=[u8 (UInt8.ofNat (x.toNat/16777216)),u8 (UInt8.ofNat (x.toNat/65536)),u8 (UInt8.ofNat (x.toNat/256)),u8 (UInt8.ofNat x.toNat)]
 rw[tO,tO,tO,tO]
theorem Wx(rc:List UInt8):(Kp.gQ rc.length).map u8++[AV.v (.int .u8 (IntKind.u8.wrap (((Kp.iG [Kp.gQ rc.length,rc].flatten).toNat:Int).fdiv (2^min 24 32)))),AV.v (.int .u8 (IntKind.u8.wrap (((Kp.iG [Kp.gQ rc.length,rc].flatten).toNat:Int).fdiv (2^min 16 32)))),AV.v (.int .u8 (IntKind.u8.wrap (((Kp.iG [Kp.gQ rc.length,rc].flatten).toNat:Int).fdiv (2^min 8 32)))),AV.v (.int .u8 (IntKind.u8.wrap ((Kp.iG [Kp.gQ rc.length,rc].flatten).toNat:Int)))]++rc.map u8=(Kp.recC rc).map u8:=by
 rw[Fh]
 unfold Kp.recC
 simp[List.map_append]
theorem Xr{rc:List UInt8}(h:rc.length≤4096):AV.v (.int .i64 (IntKind.i64.wrap (6+(rc.length:Int))))=AV.v (.int .i64 ((6+rc.length:Nat):Int)):=by
 rw[aM ab ab,Int.natCast_add];rfl
theorem ZU{rc:List UInt8}{n:Nat}(h:rc.length≤100000):∀p∈[Kp.gQ n,rc],p.length≤100000:=by
 intro p hp
 simp only[List.mem_cons,List.not_mem_nil,or_false] at hp
 rcases hp with rfl|rfl
 ·rw[Kp.jR];omega
 ·exact h
theorem Fg{n:Nat}:[AV.v (.int .u8 (IntKind.u8.wrap ((n:Int).fdiv (2^min 8 64)))),AV.v (.int .u8 (IntKind.u8.wrap (n:Int)))]=(Kp.gQ n).map u8:=by
 have hw:∀n:Nat,IntKind.u8.wrap (n:Int)=((n%256:Nat):Int):=by
  intro n
  simp only[IntKind.wrap,IntKind.bits,IntKind.signed,Bool.false_and,Bool.false_eq_true,if_false]
  omega
 have hd:(n:Int).fdiv (2^min 8 64)=((n/256:Nat):Int):=by
  rw[Int.fdiv_eq_ediv_of_nonneg _ aj];rfl
 have hu:∀n:Nat,u8 (UInt8.ofNat n)=AV.v (.int .u8 ((n%256:Nat):Int)):=by
  intro n
  show AV.v (.int .u8 (((UInt8.ofNat n).toNat:Nat):Int))=_
  rw[Kp.p6]
 rw[hd,hw,hw]
 show _=[u8 (UInt8.ofNat (n/256)),u8 (UInt8.ofNat n)]
 rw[hu,hu]
theorem yw(rc:List UInt8)(h1:1≤rc.length)(h2:rc.length≤4096):ai E 93 [aU rc] (fun r t=>r= .ax [aU (Kp.recC rc),i64 0]∧t=[]):=by
 refine ai.aC (n:=49) (rs:=[.tmp 2,.tmp 3]) Tryz.func93 rfl Tryz.ntmps93 rfl ?_
 repeat'(first
 |(
  refine aa.here 6 26 4 rfl ?_
  refine aa.aW ?_
  refine al.at 4 2 rfl ?_
  simp only[go_sem,Kp.jR,List.length_append,List.length_map,List.nil_append]
  refine al.TC (e:=5) (k:=1) (n:=1) (m:=6+rc.length) (zs:=[.v (.int .u8 0)]) ae ae jo (Xr h2) ab ab ab ?_
  refine al.of ?_
  simp only[go_sem,Kp.jR,List.length_append,List.length_map,List.nil_append])
 |refine aa.ah fun K hK=>?_
 |(
  refine aa.here 4 16 7 rfl ?_
  refine aa.region ?_;simp only[go_sem,Kp.jR,List.length_append,List.length_map,List.nil_append,Fg])
 |(refine aa.region ?_;simp only[go_sem,Kp.jR,List.length_append,List.length_map,List.nil_append])
 |(refine hK _ ?_;clear hK K)
 |refine aa.cond rfl (fun c=>?_) (fun c=>?_)<;>first|exact Bool.noConfusion c|(try simp only[dD] at c)
 |refine aa.skip ?_
 |(refine ak.one (CL [Kp.gQ rc.length,rc] (by show 2≤1000;omega) (ZU ab)) ae rfl ?_;simp only[go_sem,Kp.jR,List.length_append,List.length_map,List.nil_append])
 |(refine aP.du (fun h=>?_) (fun h=>?_)<;>simp only[h,go_sem,Kp.jR,List.length_append,List.length_map,List.nil_append]<;>(try simp only[dD] at h))
 |((with_reducible refine And.intro ?_ ?_);(focus(first|omega|(simp;done)));(try simp only[hb,go_sem,Kp.jR,List.length_append,List.length_map,List.nil_append]))
 |(
  refine aa.ret ?_
  refine aN.is ?_;simp only[go_sem,aI,aH,aG,aK,aJ,aL]<;>(first|(exfalso;omega)|exact Wx rc)))
theorem Ui{l:List UInt8}{bb:Bool}(h:¬l.map u8=[]→bb=false)(c:bb=true):l=[]:=by
 by_cases e:l=[]
 ·exact e
 ·have:=h (by simpa using e)
  rw[this] at c;exact absurd c aj
theorem nD(l:List UInt8)(hl:l.length≤1000000):ai E 77 [aU l] (fun r t=>r=aU l∧t=[]):=by
 refine ai.aC (n:=8) (rs:=[.tmp 2]) Tryz.func77 rfl Tryz.ntmps77 rfl ?_
 repeat'(first
 |refine fun(bb:Bool) (hbb:¬List.map u8 l=[]→bb=false)=>?_
 |refine aa.ah fun K hK=>?_
 |(refine aa.region ?_;simp only[go_sem,List.length_map,List.nil_append])
 |(refine hK _ ?_;clear hK K)
 |refine aa.cond rfl (fun c=>?_) (fun c=>?_)<;>(try simp only[dD] at c)
 |refine aa.skip ?_
 |((with_reducible refine And.intro ?_ ?_);(focus(first|omega|(simp;done)));(try simp only[hb,go_sem,List.length_map,List.nil_append]))
 |(
  refine aa.ret ?_
  refine aN.is ?_;simp only[go_sem,aI,aH,aG,aK,aJ,aL]<;>((have he:l=[]:=Ui af af;subst he;trivial))))
theorem inst64(x y:BitVec 64):@HOr.hOr (BitVec 64) (BitVec 64) (BitVec 64) (@instHOrOfOrOp (BitVec IntKind.i64.bits) (@BitVec.instOrOp IntKind.i64.bits)) x y=x |||y:=rfl
theorem inst32(x y:BitVec 32):@HOr.hOr (BitVec 32) (BitVec 32) (BitVec 32) (@instHOrOfOrOp (BitVec IntKind.u32.bits) (@BitVec.instOrOp IntKind.u32.bits)) x y=x |||y:=rfl
theorem wb{a b k:Nat}(h:b<2^k):(a*2^k) |||b=a*2^k+b:=by
 rw[Nat.mul_comm a];exact(Nat.two_pow_add_eq_or_of_lt h a).symm
theorem Qv(b0 b1:UInt8):IntKind.i64.wrap ((BitVec.ofInt 64 (IntKind.i64.wrap (IntKind.i64.wrap (b0.toNat:Int)*2^min 8 64)) |||BitVec.ofInt 64 (IntKind.i64.wrap (b1.toNat:Int))).toNat:Int)=((b0.toNat*256+b1.toNat:Nat):Int):=by
 have h0:=b0.toNat_lt
 have h1:=b1.toNat_lt
 have e1:IntKind.i64.wrap (IntKind.i64.wrap (b0.toNat:Int)*2^min 8 64)=((b0.toNat*2^8:Nat):Int):=by
  rw[aM (x:=(b0.toNat:Int)) ab ab,show min 8 64=8 by rfl,aM ab ab]
  simp
 have e2:IntKind.i64.wrap (b1.toNat:Int)=((b1.toNat:Nat):Int):=aM ab ab
 have ho:∀n:Nat,n<2^64→(BitVec.ofInt 64 (n:Int)).toNat=n:=by intro n hn;simp;omega
 rw[e1,e2,BitVec.toNat_or,ho _ ab,ho _ ab,wb ab,aM ab ab]
theorem tQ(n:Nat)(h:n<2^32):IntKind.u32.wrap (n:Int)=(n:Int):=by
 simp only[IntKind.wrap,IntKind.bits,IntKind.signed,Bool.false_and,Bool.false_eq_true,if_false]
 omega
theorem wa{A b k a:Nat}(hA:A=a*2^k)(hb:b<2^k)(h:A+b<2^32):IntKind.u32.wrap ((BitVec.ofInt 32 (A:Int) |||BitVec.ofInt 32 (b:Int)).toNat:Int)=((A+b:Nat):Int):=by
 have ho:∀n:Nat,n<2^32→(BitVec.ofInt 32 (n:Int)).toNat=n:=by intro n hn;simp;omega
 rw[BitVec.toNat_or,ho _ ab,ho _ ab,hA,wb hb,tQ _ ab]
theorem Vi(b2 b3 b4 b5:UInt8):IntKind.u32.wrap ((BitVec.ofInt 32 (IntKind.u32.wrap ((BitVec.ofInt 32 (IntKind.u32.wrap ((BitVec.ofInt 32 (IntKind.u32.wrap (IntKind.u32.wrap (b2.toNat:Int)*2^min 24 32)) |||BitVec.ofInt 32 (IntKind.u32.wrap (IntKind.u32.wrap (b3.toNat:Int)*2^min 16 32))).toNat:Int)) |||BitVec.ofInt 32 (IntKind.u32.wrap (IntKind.u32.wrap (b4.toNat:Int)*2^min 8 32))).toNat:Int)) |||BitVec.ofInt 32 (IntKind.u32.wrap (b5.toNat:Int))).toNat:Int)=((b2.toNat*16777216+b3.toNat*65536+b4.toNat*256+b5.toNat:Nat):Int):=by
 have h2:=b2.toNat_lt
 have h3:=b3.toNat_lt
 have h4:=b4.toNat_lt
 have h5:=b5.toNat_lt
 have ho:∀n:Nat,n<2^32→(BitVec.ofInt 32 (n:Int)).toNat=n:=by intro n hn;simp;omega
 have sh:∀(b:UInt8) (k:Nat),b.toNat*2^k<2^32→IntKind.u32.wrap (IntKind.u32.wrap (b.toNat:Int)*2^k)=((b.toNat*2^k:Nat):Int):=by
  intro b k hk
  have:=b.toNat_lt
  rw[tQ _ ab,show((b.toNat:Int)*2^k)=((b.toNat*2^k:Nat):Int) by simp,tQ _ hk]
 rw[show min 24 32=24 by rfl,show min 16 32=16 by rfl,show min 8 32=8 by rfl,sh b2 24 ab,sh b3 16 ab,sh b4 8 ab,tQ _ (by omega:b5.toNat<2^32)]
 rw[wa (k:=24) rfl ab ab,wa (k:=16) (a:=b2.toNat*2^8+b3.toNat) ab ab ab,wa (k:=8) (a:=b2.toNat*2^16+b3.toNat*2^8+b4.toNat) ab ab ab]
theorem zK{l:List UInt8}{b0 b1:UInt8}(h0:l[0]?=some b0)(h1:l[1]?=some b1):b0.toNat*256+b1.toNat=Kp.cE l:=by
 unfold Kp.cE Kp.o3
 rw[List.getD_eq_getElem?_getD,List.getD_eq_getElem?_getD,h0,h1];rfl
theorem zJ(l:List UInt8):Kp.cE l<65536:=by
 unfold Kp.cE Kp.o3
 have:=(l.getD 0 0).toNat_lt
 have:=(l.getD 1 0).toNat_lt
 omega
theorem vq{l:List UInt8}:IntKind.i64.wrap (6+((Kp.cE l:Nat):Int))=((6+Kp.cE l:Nat):Int):=by
 have:=zJ l
 rw[aM ab ab];simp
theorem Ud{l:List UInt8}{n:Nat}(h:n≤100000):∀p∈[l.take 2,(l.take n).drop 6],p.length≤100000:=by
 intro p hp
 simp only[List.mem_cons,List.not_mem_nil,or_false] at hp
 rcases hp with rfl|rfl
 ·rw[List.length_take];omega
 ·rw[List.length_drop,List.length_take];omega
theorem UD{l:List UInt8}(h:l.length<6):Kp.bL l=([],0,2):=by unfold Kp.bL;rw[if_pos h]
theorem UE{l:List UInt8}(h:¬l.length<6)(h2:Kp.cE l<1∨4096<Kp.cE l):Kp.bL l=([],0,3):=by unfold Kp.bL;rw[if_neg h,if_pos h2]
theorem UF{l:List UInt8}(h:¬l.length<6)(h2:¬(Kp.cE l<1∨4096<Kp.cE l))(h3:l.length<6+Kp.cE l):Kp.bL l=([],0,2):=by unfold Kp.bL;rw[if_neg h,if_neg h2,if_pos h3]
theorem XV:∀{l:List UInt8} {b0 b1 b2 b3 b4 b5:UInt8},l[0]?=some b0→l[1]?=some b1→l[2]?=some b2→l[3]?=some b3→l[4]?=some b4→l[5]?=some b5→∃t,l=b0::b1::b2::b3::b4::b5::t
 |a0::a1::a2::a3::a4::a5::t,_,_,_,_,_,_,h0,h1,h2,h3,h4,h5=>by cases h0;cases h1;cases h2;cases h3;cases h4;cases h5;exact⟨t,rfl⟩
theorem Yx{b0 b1 b2 b3 b4 b5:UInt8}{t:List UInt8}(hn:b0.toNat*256+b1.toNat≤t.length):
 Kp.recC (t.take (b0.toNat*256+b1.toNat))=b0::b1::b2::b3::b4::b5::t.take (b0.toNat*256+b1.toNat)↔(Kp.iG ([b0,b1]++t.take (b0.toNat*256+b1.toNat))).toNat=b2.toNat*16777216+b3.toNat*65536+b4.toNat*256+b5.toNat:=by
 have h0:=b0.toNat_lt
 have h1:=b1.toNat_lt
 have h2:=b2.toNat_lt
 have h3:=b3.toNat_lt
 have h4:=b4.toNat_lt
 have h5:=b5.toNat_lt
 have hl:(t.take (b0.toNat*256+b1.toNat)).length=b0.toNat*256+b1.toNat:=by rw[List.length_take];omega
 have hb:Kp.gQ (b0.toNat*256+b1.toNat)=[b0,b1]:=by
  unfold Kp.gQ
  rw[show(b0.toNat*256+b1.toNat)/256=b0.toNat by omega]
  have e0:UInt8.ofNat b0.toNat=b0:=by simp
  have e1:UInt8.ofNat (b0.toNat*256+b1.toNat)=b1:=by
   apply UInt8.toNat_inj.1;rw[Kp.p6];omega
  rw[e0,e1]
 unfold Kp.recC
 rw[hl,hb]
 generalize Kp.iG ([b0,b1]++t.take (b0.toNat*256+b1.toNat))=x
 have hx:=x.isLt
 show b0::b1::UInt8.ofNat (x.toNat/16777216)::UInt8.ofNat (x.toNat/65536)::UInt8.ofNat (x.toNat/256)::UInt8.ofNat x.toNat::_=_↔_
 have q:∀(n:Nat) (b:UInt8),UInt8.ofNat n=b↔n%256=b.toNat:=by
  intro n b
  rw[←UInt8.toNat_inj,Kp.p6]
 constructor
 ·intro e
  injection e with _ e;injection e with _ e;injection e with e2 e;injection e with e3 e;injection e with e4 e;injection e with e5 _
  rw[q] at e2 e3 e4 e5;omega
 ·intro e
  rw[(q _ b2).2 ab,(q _ b3).2 ab,(q _ b4).2 ab,(q _ b5).2 ab]
  rfl
theorem AT{l:List UInt8}{b0 b1 b2 b3 b4 b5:UInt8}(h0:l[0]?=some b0)(h1:l[1]?=some b1)(h2:l[2]?=some b2)(h3:l[3]?=some b3)(h4:l[4]?=some b4)(h5:l[5]?=some b5)(hn:¬l.length<6+Kp.cE l):
 (l.take (6+Kp.cE l)).drop 6=(l.drop 6).take (Kp.cE l)∧(Kp.recC ((l.drop 6).take (Kp.cE l))=l.take (6+Kp.cE l)↔(Kp.iG [l.take 2,(l.take (6+Kp.cE l)).drop 6].flatten).toNat=b2.toNat*16777216+b3.toNat*65536+b4.toNat*256+b5.toNat):=by
 have e:=zK h0 h1
 obtain⟨t,rfl⟩:=XV h0 h1 h2 h3 h4 h5
 rw[←e] at hn ⊢
 obtain⟨n,hk⟩:∃n,b0.toNat*256+b1.toNat=n:=⟨_,rfl⟩
 rw[hk] at hn ⊢
 have hd:(b0::b1::b2::b3::b4::b5::t).drop 6=t:=rfl
 have ht:(b0::b1::b2::b3::b4::b5::t).take (6+n)=b0::b1::b2::b3::b4::b5::t.take n:=by
  rw[Nat.add_comm];rfl
 have h2:(b0::b1::b2::b3::b4::b5::t).take 2=[b0,b1]:=rfl
 have hl:n≤t.length:=by simp only[List.length_cons] at hn;omega
 rw[hd,ht,h2]
 refine⟨rfl,?_⟩
 have:=Yx (b0:=b0) (b1:=b1) (b2:=b2) (b3:=b3) (b4:=b4) (b5:=b5) (t:=t) ab
 rw[hk] at this
 rw[this]
 show _↔(Kp.iG [[b0,b1],t.take n].flatten).toNat=_
 rw[List.flatten_cons,List.flatten_cons,List.flatten_nil,List.append_nil]
theorem UG{l:List UInt8}{b0 b1 b2 b3 b4 b5:UInt8}(h0:l[0]?=some b0)(h1:l[1]?=some b1)(h2:l[2]?=some b2)(h3:l[3]?=some b3)(h4:l[4]?=some b4)(h5:l[5]?=some b5)(ha:¬l.length<6)(hb:¬(Kp.cE l<1∨4096<Kp.cE l))(hn:¬l.length<6+Kp.cE l)
 (hs:¬(((Kp.iG [l.take 2,(l.take (6+Kp.cE l)).drop 6].flatten).toNat:Nat):Int)=((b2.toNat*16777216+b3.toNat*65536+b4.toNat*256+b5.toNat:Nat):Int)):Kp.bL l=([],0,11):=by
 unfold Kp.bL
 rw[if_neg ha,if_neg hb,if_neg hn,if_neg (fun h=>hs (by rw[(AT h0 h1 h2 h3 h4 h5 hn).2.1 h]))]
theorem UH{l:List UInt8}{b0 b1 b2 b3 b4 b5:UInt8}(h0:l[0]?=some b0)(h1:l[1]?=some b1)(h2:l[2]?=some b2)(h3:l[3]?=some b3)(h4:l[4]?=some b4)(h5:l[5]?=some b5)(ha:¬l.length<6)(hb:¬(Kp.cE l<1∨4096<Kp.cE l))(hn:¬l.length<6+Kp.cE l)
 (hs:(((Kp.iG [l.take 2,(l.take (6+Kp.cE l)).drop 6].flatten).toNat:Nat):Int)=((b2.toNat*16777216+b3.toNat*65536+b4.toNat*256+b5.toNat:Nat):Int)):Kp.bL l=((l.take (6+Kp.cE l)).drop 6,6+Kp.cE l,0):=by
 have q:=AT h0 h1 h2 h3 h4 h5 hn
 unfold Kp.bL
 rw[if_neg ha,if_neg hb,if_neg hn,if_pos (q.2.2 ab),q.1]
theorem LD(l:List UInt8)(hl:l.length≤1000000):ai E 179 [aU l] (fun r t=>r= .ax [aU (Kp.bL l).1,i64 (Kp.bL l).2.1,i64 (Kp.bL l).2.2]∧t=[]):=by
 have hh:=zJ l
 refine ai.aC (n:=69) (rs:=[.tmp 2,.tmp 3,.tmp 4]) Tryz.func179 rfl Tryz.ntmps179 rfl ?_
 repeat'(first
 |refine aa.ah fun K hK=>?_
 |(
  refine aa.here 3 11 11 rfl ?_
  obtain⟨b0,hb0⟩:∃b0,l[0]?=some b0:=⟨_,List.getElem?_eq_getElem ab⟩
  obtain⟨b1,hb1⟩:∃b1,l[1]?=some b1:=⟨_,List.getElem?_eq_getElem ab⟩
  refine aa.bB [0,1,2,3,4,5,6,7,8,9,10] [] ae ae rfl ?_;simp only[go_sem,hb0,hb1,Option.map_some,List.getElem?_map,inst64,Qv,zK hb0 hb1])
 |(
  refine aa.here 6 27 5 rfl ?_
  refine aa.region ?_;simp only[go_sem,vq])
 |(
  refine aa.here 8 32 5 rfl ?_
  refine aa.region ?_;simp only[go_sem,vq,Int.toNat_natCast])
 |(
  refine aa.here 9 36 23 rfl ?_
  obtain⟨b2,hb2⟩:∃b2,l[2]?=some b2:=⟨_,List.getElem?_eq_getElem ab⟩
  obtain⟨b3,hb3⟩:∃b3,l[3]?=some b3:=⟨_,List.getElem?_eq_getElem ab⟩
  obtain⟨b4,hb4⟩:∃b4,l[4]?=some b4:=⟨_,List.getElem?_eq_getElem ab⟩
  obtain⟨b5,hb5⟩:∃b5,l[5]?=some b5:=⟨_,List.getElem?_eq_getElem ab⟩
  refine aa.bB [0,1,2,3,4,5,6,7,8,9,10,11,12,13,14,15,16,17,18,19,20,21,22] [] ae ae rfl ?_;simp only[go_sem,hb2,hb3,hb4,hb5,Option.map_some,List.getElem?_map,inst32,Vi])
 |(refine aa.region ?_;simp only[go_sem])
 |(refine hK _ ?_;clear hK K)
 |refine aa.cond rfl (fun c=>?_) (fun c=>?_)<;>first|exact Bool.noConfusion c|(try simp only[dD] at c)
 |refine aa.skip ?_
 |(refine ak.one (CL [l.take 2,(l.take (6+Kp.cE l)).drop 6] (by show 2≤1000;omega) (Ud ab)) ae rfl ?_;simp only[go_sem])
 |(refine ak.one (nD ((l.take (6+Kp.cE l)).drop 6) (by rw[List.length_drop,List.length_take];omega)) ae rfl ?_;simp only[go_sem])
 |(refine aP.du (fun h=>?_) (fun h=>?_)<;>simp only[h,go_sem]<;>(try simp only[dD] at h))
 |((with_reducible refine And.intro ?_ ?_);(focus(first|omega|(simp;done)));(try simp only[hb,go_sem]))
 |(
  refine aa.ret ?_
  refine aN.is ?_;simp only[go_sem,aI,aH,aG,aK,aJ,aL]<;>(first|(rw[UG hb0 hb1 hb2 hb3 hb4 hb5 ab ab ab af];exact⟨trivial,rfl,rfl⟩)|(rw[UH hb0 hb1 hb2 hb3 hb4 hb5 ab ab ab af];exact⟨rfl,vq,rfl⟩)|(rw[UD ab];exact⟨trivial,rfl,rfl⟩)|(rw[UE ab ab];exact⟨trivial,rfl,rfl⟩)|(rw[UF ab ab ab];exact⟨trivial,rfl,rfl⟩))))
end Go.Proofs.YthoonfpkfdjhiaaGreatDoor
end
