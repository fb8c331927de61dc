/- Texts of one chain, put together (Lm, Ln, Facts, FldP, FldQ, FldR). -/
import Derived.Test.YthoonfpkfdjhiaaGreatDoorKaD
import Derived.Laws.Externs
import Derived.Test.YthoonfpkfdjhiaaGreatDoorRows
import Derived.Lib.ParseIntB
import Derived.Lib.ItoaNum
import Derived.Lib.IndexMore
import Derived.Lib.Strings
import GoSem.Core.Utf8
import Derived.WalkKit
set_option linter.unusedVariables false
set_option linter.unusedSimpArgs false
set_option maxHeartbeats 16000000
set_option maxRecDepth 8000
section
namespace Go.Abs
open Go Go.RowKit
theorem AWPL.mkMu{E:Env}{Q:Exit→St→Prop}{st:St}{ops:Array Oper}{l:List Oper}{dst:Option Tmp}{t ty:TypeId}{pos:String}{after:Array Edge}{e:TypeId}{k n:Nat}(hai:appInfo E.P t=some (e,k,n))
 (h:AWPL E ops l Q (St.put { st with own:=st.own++[some []] } dst (.mu st.own.length k 0 0 0))):AWPL E ops (⟨dst,.buildSlice t 0 #[],ty,pos,after,none⟩::l) Q st:=by
 intro w0 im0 cx a w h0 hG r
 refine wpList_step (fun K' hK'=>?_)
 have hw:Region.wanted ⟨dst,.buildSlice t 0 #[],ty,pos,after,none⟩ (yielded ops a.tmps)=true:=rfl
 rw[if_pos hw]
 obtain⟨hu,hs,hk0,i,zv,hi,hz,hsize,hbytes,hzs⟩:=appInfo_ok hai
 have hrun:(Instr.buildSlice t 0 #[]).run E.P w= .ok (.slice (some ⟨w.heap.size,0,none⟩) 0 0) (w.alloc (.cells #[] e)):=by
  unfold Instr.buildSlice
  simp only[Sem.run_bind,underlying_run hu,Result.andThen_ok,tsz_run hs,Sem.run_ite,Nat.zero_mul,if_true,Sem.run_pure]
  have e0:Array.range 0= #[]:=Array.eq_empty_of_size_eq_zero (by simp)
  simp[newRow,Instr.fill,e0]
 obtain⟨hle,r2⟩:=r.addOwn (below_alloc w (.cells #[] e)) (g:=w.heap.size) (k:=k) (es:=[]) (Nat.le_refl _) ⟨#[],e,0,0,heap_new w _,.inl rfl,by simp,by simp,by simp⟩
 have hv:VR { cx with β:=cx.β++[some (w.heap.size,k)] } (.mu st.own.length k 0 0 0) (.slice (some ⟨w.heap.size,0,none⟩) 0 0):=by
  have hb:(cx.β++[some (w.heap.size,k)])[st.own.length]?=some (some (w.heap.size,k)):=by
   rw[←r.ownlen,List.getElem?_append_right (Nat.le_refl _)];simp
  have:=VR.mu (c:={ cx with β:=cx.β++[some (w.heap.size,k)] }) (id:=st.own.length) (off:=0) (len:=0) (cap:=0) hb (Nat.le_refl _)
  rwa[Nat.zero_mul] at this
 refine wp_value (w':=w.alloc (.cells #[] e)) (v:= .slice (some ⟨w.heap.size,0,none⟩) 0 0) ?_ (hK' _ _ (h w0 im0 _ _ _ h0 hG (r2.put dst hv)))
 simp only[execOp,Array.map_empty,Sem.run_bind,hrun,Result.andThen_ok,Sem.run_pure]
theorem AWPL.appMu{E:Env}{Q:Exit→St→Prop}{st:St}{ops:Array Oper}{l:List Oper}{dst:Option Tmp}{t tx ty:TypeId}{x y:Operand}{pos:String}{after:Array Edge}{e:TypeId}{k n id:Nat}{xs:List AV}
 (hx:srcTy E.P tx=true) (hai:appInfo E.P t=some (e,k,n)) (hs:st.ev x= .mu id k 0 0 0) (hsrc:ASrc (st.ev y) k=some xs) (ho:st.own[id]?=some (some [])) (h62:xs.length≤4611686018427387904) (hbt:xs.length*n≤140737488355328)
 (h:∀m,AWPL E ops l Q (St.put { st with own:=st.own.set id none++[some (xs++spare k m)] } dst (.mu st.own.length k 0 xs.length (xs.length+m)))):AWPL E ops (⟨dst,.call ⟨.builtin .append,#[x,y],#[t,tx]⟩,ty,pos,after,none⟩::l) Q st:=by
 intro w0 im0 cx a w h0 hG r
 refine wpList_step (fun K' hK'=>?_)
 have hw:Region.wanted ⟨dst,.call ⟨.builtin .append,#[x,y],#[t,tx]⟩,ty,pos,after,none⟩ (yielded ops a.tmps)=true:=rfl
 rw[if_pos hw]
 have hv:=r.ev x
 rw[hs] at hv
 have fin:∀(v':Value) (w':World) (c':Ctx) (m:Nat),(Builtin.append_ #[t,tx] ty #[a.eval x,a.eval y]).run E.P w= .ok v' w'→Rel w0 im0 c' { st with own:=st.own.set id none++[some (xs++spare k m)] } a w'→VR c' (.mu st.own.length k 0 xs.length (xs.length+m)) v'→
  Oper.wp E.P ⟨dst,.call ⟨.builtin .append,#[x,y],#[t,tx]⟩,ty,pos,after,none⟩ a w K' (fun e a' w'=>Hands w0 im0 (Q e) a' w'):=fun v' w' c' m h1 h2 h3=>by
  refine wp_value (w':=w') (v:=v') ?_ (hK' _ _ (h m w0 im0 _ _ _ h0 hG (h2.put dst h3)))
  simp only[execOp,resolve,Sem.run_bind,Sem.run_pure,Result.andThen_ok,invoke,builtin,List.map_toArray,List.map_cons,List.map_nil,h1]
 by_cases hne:xs=[]
 ·subst hne
  obtain⟨hu,hss,hk0,i,zv,hi,hz,hsize,hbytes,hzs⟩:=appInfo_ok hai
  obtain⟨news,hnl,hnc,hlen,hone,hfirst⟩:=src_ok (P:=E.P) r (r.ev y) hk0 hsrc
  have hnews:news=[]:=List.eq_nil_of_length_eq_zero (by simpa using hnl)
  subst hnews
  have hrun:∀base,a.eval x= .slice base 0 0→(Builtin.append_ #[t,tx] ty #[a.eval x,a.eval y]).run E.P w= .ok (a.eval x) w:=fun base hb=>by
   rw[hb]
   have:=run_append_place (P:=E.P) (w:=w) (ty:=ty) (base:=base) (n:=0) (cap:=0) hu hss hx (hlen w) (hfirst w (fun _ _=>rfl)) (by simp)
   rw[this]
   cases base<;>simp[storeCells]
  rcases hv.inv_mu with⟨g,hb,_,he⟩|⟨_,_,he⟩
  ·obtain⟨hle,r2⟩:=r.moveOwn hb ho
   refine fin _ w _ 0 (hrun _ he) (by simpa[spare] using r2) ?_
   rw[he]
   exact .mu (by show(cx.β++[_])[_]?=_;rw[←r.ownlen];simp) (by simp)
  ·obtain⟨hle,r2⟩:=(r.dropOwn id).addNil
   exact fin _ w _ 0 (hrun _ he) (by simpa[spare] using r2) (by rw[he];exact .muN)
 ·obtain⟨v',w',c',m,hr,hR,hV⟩:=append_mu (P:=E.P) (ty:=ty) r hx hai (r.ev y) hsrc hne (es:=[]) (sp:=[]) hv ho (by simpa using h62) (by simpa using hbt)
  exact fin v' w' c' m hr (by simpa using hR) (by simpa using hV)
end Go.Abs
namespace Go.Abs
open Go Go.RowKit
def notMu:AV→Bool
 |.mu _ _ _ _ _=>false
 |_=>true
def tokOp(st:St):Option Oper→Prop
 |some o=>match o.op with
  |.call cl=>match cl.callee,cl.args.toList with
   |.builtin .append,x::_=>notMu (st.ev x)=true
   |_,_=>True
  |_=>True
 |none=>True
def setOp:Op→Bool
 |.store .. =>true
 |_=>false
def AStepT(E:Env)(ops:Array Oper)(i:Nat)(C:St→Prop)(st:St):Prop:=tokOp st ops[i]?∧AStep E ops i C st
def APlanT(E:Env)(ops:Array Oper)(K:St→Prop):Plan→St→Prop
 |.done,st=>K st
 |.take i p,st=>AStepT E ops i (APlanT E ops K p) st
 |.fork p,st=>APlanT E ops K p st
 |.alt i p rest,st=>AStepT E ops i (APlanT E ops K p) st∧APlanT E ops K rest st
 |.ends,_=>True
def AAnyT(E:Env)(ops:Array Oper)(K:St→Prop):Nat→Array Bool→St→Prop
 |0,L,st=>Region.ready .any ops L=[]∧K st
 |n+1,L,st=>(Region.ready .any ops L=[]→K st)∧∀i∈Region.ready .any ops L,AStepT E ops i (AAnyT E ops K n (L.setIfInBounds i true)) st
def swapTB(P:Program)(ops:Array Oper)(p o:Oper):Bool:=
 (lightOp P p.op&&detOp P p.op&&(!setOp o.op||!loadOp p.op)) &&
 (match p.dst with|none=>true|some d=>!(Oper.looksAt ops o).contains d&&o.dst !=some d) &&
 (match o.dst with|none=>true|some d=>!(Oper.looksAt ops p).contains d)
def freeT(P:Program)(ops:Array Oper)(anc:List (List Nat))(L:Array Bool)(p:Nat):Bool:=
 match ops[p]? with
 |none=>false
 |some x=>(List.range ops.size).all fun o=>o==p||L.getD o true||(anc.getD o []).contains p||(match ops[o]? with|none=>true|some y=>swapTB P ops x y)
def planOKT(P:Program)(ops:Array Oper)(anc:List (List Nat)):Bool→Plan→Array Bool→Nat→Bool
 |b,.done,L,_=>b&&(Region.ready .any ops L).isEmpty
 |b,.take i p,L,n=>b&&(match n with|0=>false|m+1=>(Region.ready .any ops L).contains i&&freeT P ops anc L i&&planOKT P ops anc true p (L.setIfInBounds i true) m)
 |b,.fork p,L,n=>b&&(p.alts==Region.ready .any ops L)&&!p.alts.isEmpty&&planOKT P ops anc false p L n
 |b,.alt i p rest,L,n=>!b&&(match n with|0=>false|m+1=>(Region.ready .any ops L).contains i&&planOKT P ops anc true p (L.setIfInBounds i true) m&&planOKT P ops anc false rest L (m+1))
 |b,.ends,_,_=>!b
section
variable{E:Env}{ops:Array Oper}{K:St→Prop}{anc:List (List Nat)}
theorem AStepT.mono{i:Nat}{C D:St→Prop}{st:St}(hk:AStepT E ops i C st)(h:∀s,C s→D s):AStepT E ops i D st:=⟨hk.1,hk.2.mono h⟩
theorem AAnyT.drop:∀{n:Nat} {L:Array Bool} {st:St},AAnyT E ops K n L st→AAny E ops K n L st
 |0,_,_,h=>h
 |_+1,_,_,h=>⟨h.1,fun i hi=>(h.2 i hi).2.mono fun _=>AAnyT.drop⟩
theorem tok_light{P:Program}{p:Oper}{st:St}(h:lightOp P p.op=true):tokOp st (some p):=by
 obtain⟨dst,op,type,pos,after,guard⟩:=p
 unfold tokOp
 cases op<;>simp only
 case call cl=>
  obtain⟨callee,args,tys⟩:=cl
  simp only[lightOp] at h
  cases callee with
  |value f=>simp at h
  |invoke=>simp at h
  |builtin b=>cases b<;>simp only at h ⊢ <;>first|trivial|(simp at h;done)
theorem tok_put{st:St}{d:Option Tmp}{y:AV}{o:Oper}(h:∀t∈Oper.looksAt ops o,d≠some t):tokOp (st.put d y) (some o)=tokOp st (some o):=by
 unfold tokOp
 obtain⟨dst,op,type,pos,after,guard⟩:=o
 cases op<;>simp only
 case call cl=>
  obtain⟨callee,args,tys⟩:=cl
  simp only
  split
  ·rename_i x xs h1
   rw[ev_put_ne]
   intro t ht
   exact h t (looks_op (by simp[Op.operands,Call.operands];rw[←Array.mem_toList_iff,h1,ht];simp))
  ·rfl
theorem own_keep{o:Oper}{s:St}{C:St→Prop}(ht:tokOp s (some o))(hset:setOp o.op=false)(hk:AOp E o s C):AOp E o s (fun s'=>C s'∧OwnLe s s'):=by
 cases hso:storeOp o.op with
 |false=>
  refine aop_congr (fun _ _=>rfl) rfl rfl rfl rfl hk (fun s' t' hc ha=>?_)
  obtain⟨z,h1,h2⟩:=ha.at'
  have:t'=s':=by rw[h2,←h1]
  rw[this];exact⟨hc,ha.ext hso⟩
 |true=>
  obtain⟨dst,op,type,pos,after,guard⟩:=o
  cases op<;>simp only[storeOp,setOp] at hso hset<;>try(simp at hso;done)
  case store=>simp at hset
  case call cl=>
   obtain⟨callee,args,tys⟩:=cl
   simp only at hso
   cases callee with
   |value f=>simp at hso
   |invoke=>simp at hso
   |builtin b=>
    cases b<;>simp only at hso<;>try(simp at hso;done)
    unfold AOp at hk ⊢
    simp only at hk ⊢
    split at hk
    ·rename_i x y t tx hargs htys
     rename_i hcal
     simp only[tokOp,hargs] at ht
     obtain⟨g1,e,k,n,xs,g2,g3,hk⟩:=hk
     refine⟨g1,e,k,n,xs,g2,g3,?_⟩
     split at hk
     ·obtain⟨g4,g5,g6,g7,hk⟩:=hk
      exact⟨g4,g5,g6,g7,hk,fun id es he=>by rw[put_own.1];exact he⟩
     ·obtain⟨g6,g7,hk⟩:=hk
      exact⟨g6,g7,hk,fun id es he=>by rw[put_own.1];exact he⟩
     ·rename_i hx
      rw[hx] at ht;simp[notMu] at ht
     ·exact hk.elim
    ·rename_i hh;simp at hh
    ·exact(light_mono (fun y hy=>⟨hy,fun id es he=>by rw[put_own.1];exact he⟩) hk)
theorem swapT{i j:Nat}{p o:Oper}{C:St→Prop}{st:St}(hp:ops[i]?=some p)(ho:ops[j]?=some o)(hs:swapTB E.P ops p o=true)(h:AStepT E ops i (AStepT E ops j C) st):AStepT E ops j (AStepT E ops i C) st:=by
 unfold swapTB at hs
 simp only[Bool.and_eq_true] at hs
 obtain⟨⟨⟨⟨hl,hd⟩,hst⟩,hpo⟩,hop⟩:=hs
 have hpo1:∀t∈Oper.looksAt ops o,p.dst≠some t:=fun t ht e=>by
  rw[e] at hpo
  simp only[Bool.and_eq_true,Bool.not_eq_true'] at hpo
  have:=hpo.1
  simp[ht] at this
 have hpo2:∀t,p.dst=some t→o.dst≠some t:=fun t e1 e2=>by
  rw[e1] at hpo
  simp only[Bool.and_eq_true] at hpo
  have:=hpo.2
  simp[e2] at this
 have hop1:∀t∈Oper.looksAt ops p,o.dst≠some t:=fun t ht e=>by
  rw[e] at hop
  simp[ht] at hop
 have htp:∀{C:St→Prop} {s:St},AStep E ops i C s→AStepT E ops i C s:=fun h=>⟨by rw[hp];exact tok_light hl,h⟩
 have h:=h.2
 have h1:∃y,AStepT E ops j C (st.put p.dst y)∧
  (∀(C:St→Prop) (t:St),(∀x∈p.op.operands,st.ev x=t.ev x)→AWant ops p t=AWant ops p st→(loadOp p.op=true→OwnLe st t)→C (t.put p.dst y)→AStep E ops i C t):=by
  unfold AStep at h
  rw[hp] at h
  simp only at h
  obtain⟨q,hq,h2,h3⟩:=h
  cases q with
  |true=>
   have h2:=(light_aop hl).1 (h2 rfl)
   obtain⟨y,ha,hb⟩:=det_light hd _ h2
   refine⟨y,ha,fun C t e1 e2 e3 hC=>?_⟩
   unfold AStep
   rw[hp]
   refine⟨true,by rw[e2];exact hq,fun _=>(light_aop hl).2 ?_,fun hq=>by simp at hq⟩
   exact light_congr e1 e3 (hb (fun z=>C (t.put p.dst z)) hC)
  |false=>
   refine⟨.v undef,h3 rfl,fun C t e1 e2 e3 hC=>?_⟩
   unfold AStep
   rw[hp]
   exact⟨false,by rw[e2];exact hq,fun hq=>by simp at hq,fun _=>hC⟩
 obtain⟨y,h2,key⟩:=h1
 have hwp:∀{t:St} {own:List (Option (List AV))} {tk:List Nat} {rv:Option (List (Tmp×Nat))} {z:AV},t=St.put { st with own:=own,tk:=tk,rsv:=rv } o.dst z→AWant ops p t=AWant ops p st:=fun{t own tk rv z} e=>by
  rw[e,want_put_ne hop1];rfl
 have hevp:∀{t:St} {own:List (Option (List AV))} {tk:List Nat} {rv:Option (List (Tmp×Nat))} {z:AV},t=St.put { st with own:=own,tk:=tk,rsv:=rv } o.dst z→∀x∈p.op.operands,st.ev x=t.ev x:=fun{t own tk rv z} e x hx=>by
  rw[e,ev_put_ne (fun u hu=>hop1 u (looks_op (hu ▸ hx)))]
  cases x<;>rfl
 obtain⟨ht,h2⟩:=h2
 rw[ho] at ht
 have ht':tokOp st (some o):=by rwa[tok_put hpo1] at ht
 refine⟨by rw[ho];exact ht',?_⟩
 unfold AStep at h2 ⊢
 rw[ho] at h2 ⊢
 simp only at h2 ⊢
 obtain⟨q,hq,h3,h4⟩:=h2
 rw[want_put_ne hpo1] at hq
 refine⟨q,hq,fun e=>?_,fun e=>?_⟩
 ·have h5:AOp E o (st.put p.dst y) (fun s'=>C s'∧(loadOp p.op=true→OwnLe (st.put p.dst y) s')):=by
   cases hset:setOp o.op with
   |false=>exact aop_mono (own_keep ht hset (h3 e)) fun s' hs'=>⟨hs'.1,fun _=>hs'.2⟩
   |true=>exact aop_mono (h3 e) fun s' hs'=>⟨hs',fun hload=>by simp[hset,hload] at hst⟩
  refine aop_congr (t:=st) (fun x hx=>ev_put_ne (fun u hu=>hpo1 u (looks_op (hu ▸ hx)))) put_own.1 put_own.2.1 put_own.2.2.1 put_own.2.2.2 h5 (fun s' t' hc ha=>?_)
  obtain⟨z,e1,e2⟩:=ha.at'
  rw[put_with] at e1
  have hC:C (t'.put p.dst y):=by
   rw[e2,←put_comm (fun t h1 h2=>hpo2 t h1 h2),←e1]
   exact hc.1
  exact htp (key C t' (hevp e2) (hwp e2) (fun hload=>by
   have:=hc.2 hload
   intro id es he
   rw[ha.own]
   exact this id es (by rw[put_own.1];exact he)) hC)
 ·have h4:=h4 e
  rw[put_comm (fun t h1 h2=>hpo2 t h1 h2)] at h4
  have e2:st.put o.dst (.v undef)=St.put { st with own:=st.own,tk:=st.tk,rsv:=st.rsv } o.dst (.v undef):=rfl
  exact htp (key C (st.put o.dst (.v undef)) (hevp e2) (hwp e2) (fun _ id es he=>by rw[put_own.1];exact he) h4)
theorem freeT_swap(hv:listedOK ops anc=true){L:Array Bool}(hw:WfL anc L){p o:Nat}(hf:freeT E.P ops anc L p=true)(hp:p∈Region.ready .any ops L)(ho:o∈Region.ready .any ops L)(hne:o≠p):
 ∃x y,ops[p]?=some x∧ops[o]?=some y∧swapTB E.P ops x y=true:=by
 obtain⟨hpl,x,hx,_⟩:=mem_ready.1 hp
 obtain⟨hol,y,hy,_⟩:=mem_ready.1 ho
 refine⟨x,y,hx,hy,?_⟩
 unfold freeT at hf
 simp only[hx,List.all_eq_true,List.mem_range,Bool.or_eq_true,beq_iff_eq] at hf
 have hlt:o<ops.size:=(Array.getElem?_eq_some_iff.1 hy).1
 have:=hf o hlt
 rcases this with((h|h)|h)|h
 ·exact absurd h hne
 ·rw[hol] at h;simp at h
 ·have:=anc_listed hv hw ho p (by simpa using h)
  have h2:L.getD p true=true:=by
   simp only[Array.getD_eq_getD_getElem?] at this ⊢
   cases hh:L[p]? with
   |none=>simp
   |some b=>simpa[hh] using this
  rw[hpl] at h2;simp at h2
 ·simpa[hy] using h
theorem freeT_mono{L:Array Bool}{p o:Nat}(hf:freeT E.P ops anc L p=true):freeT E.P ops anc (L.setIfInBounds o true) p=true:=by
 unfold freeT at *
 split at hf
 ·simp at hf
 ·rename_i x hx
  rw[List.all_eq_true] at *
  intro q hq
  have:=hf q hq
  simp only[Bool.or_eq_true] at this ⊢
  rcases this with((h|h)|h)|h
  ·exact .inl (.inl (.inl h))
  ·refine .inl (.inl (.inr ?_))
   by_cases e:o=q
   ·subst e
    simp only[Array.getD_eq_getD_getElem?] at h ⊢
    rw[Array.getElem?_setIfInBounds,if_pos rfl]
    split<;>simp
   ·rwa[getD_set_ne true e]
  ·exact .inl (.inr h)
  ·exact .inr h
theorem astepT_false{i:Nat}{p o:Oper}{st:St}(hp:ops[i]?=some p)(hs:swapTB E.P ops p o=true)(h:AStepT E ops i (fun _=>False) st):False:=by
 have h:=h.2
 rw[astep_some hp] at h
 obtain⟨q,h1,h2,h3⟩:=h
 cases q with
 |false=>exact h3 rfl
 |true=>
  have h2:=h2 rfl
  unfold swapTB at hs
  simp only[Bool.and_eq_true] at hs
  obtain⟨y,hy,_⟩:=det_light hs.1.1.1.2 _ ((light_aop hs.1.1.1.1).1 h2)
  exact hy
theorem takeT_ok(hv:listedOK ops anc=true){p:Nat}:∀(n:Nat) (L:Array Bool) (st:St),WfL anc L→freeT E.P ops anc L p=true→p∈Region.ready .any ops L→
 AStepT E ops p (AAnyT E ops K n (L.setIfInBounds p true)) st→AAnyT E ops K (n+1) L st
 |n,L,st,hw,hf,hp,h=>by
  refine⟨fun e=>(by rw[e] at hp;simp at hp),fun o ho=>?_⟩
  by_cases hne:o=p
  ·subst hne;exact h
  ·obtain⟨x,y,hx,hy,hs⟩:=freeT_swap (E:=E) hv hw hf hp ho hne
   have ho':=ready_add ho hne (o:=p)
   cases n with
   |zero=>
    exfalso
    have:∀st',AAnyT E ops K 0 (L.setIfInBounds p true) st'→False:=fun st' h'=>by
     have:=h'.1
     rw[this] at ho';simp at ho'
    exact astepT_false hx hs (h.mono (D:=fun _=>False) this)
   |succ m=>
    have h2:AStepT E ops p (AStepT E ops o (AAnyT E ops K m ((L.setIfInBounds p true).setIfInBounds o true))) st:=h.mono fun s hs'=>hs'.2 o ho'
    have h3:=swapT hx hy hs h2
    refine h3.mono fun s hs'=>?_
    rw[set_comm] at hs'
    exact takeT_ok hv m _ s (hw.add hv ho) (freeT_mono hf) (ready_add hp (fun e=>hne e.symm)) hs'
theorem planT_ok(hv:listedOK ops anc=true):∀(x:Plan) (b:Bool) (L:Array Bool) (n:Nat) (st:St),planOKT E.P ops anc b x L n=true→WfL anc L→APlanT E ops K x st→
 (b=true→AAnyT E ops K n L st)∧(b=false→∀i∈x.alts,∃m,n=m+1∧AStepT E ops i (AAnyT E ops K m (L.setIfInBounds i true)) st)
 |.done,b,L,n,st,h,hw,ha=>by
  simp only[planOKT,Bool.and_eq_true,List.isEmpty_iff] at h
  refine⟨fun _=>?_,fun hb=>by rw[hb] at h;simp at h⟩
  cases n with
  |zero=>exact⟨h.2,ha⟩
  |succ n=>exact⟨fun _=>ha,fun i hi=>by rw[h.2] at hi;simp at hi⟩
 |.take i p,b,L,n,st,h,hw,ha=>by
  simp only[planOKT,Bool.and_eq_true] at h
  refine⟨fun _=>?_,fun hb=>by rw[hb] at h;simp at h⟩
  cases n with
  |zero=>simp at h
  |succ n=>
   simp only[Bool.and_eq_true] at h
   obtain⟨_,⟨h1,h2⟩,h3⟩:=h
   have h1:i∈Region.ready .any ops L:=by simpa using h1
   refine takeT_ok hv n L st hw h2 h1 ?_
   exact AStepT.mono ha fun s hs=>(planT_ok hv p true _ n s h3 (hw.add hv h1) hs).1 rfl
 |.fork p,b,L,n,st,h,hw,ha=>by
  simp only[planOKT,Bool.and_eq_true,beq_iff_eq,Bool.not_eq_true',List.isEmpty_eq_false_iff] at h
  obtain⟨⟨⟨hb,h1⟩,h2⟩,h3⟩:=h
  refine⟨fun _=>?_,fun hb'=>by rw[hb'] at hb;simp at hb⟩
  have:=(planT_ok hv p false L n st h3 hw ha).2 rfl
  obtain⟨i0,hi0⟩:=List.exists_mem_of_ne_nil _ h2
  obtain⟨n',rfl,_⟩:=this i0 hi0
  refine⟨fun e=>by rw[h1,e] at hi0;simp at hi0,fun i hi=>?_⟩
  obtain⟨m,e,hm⟩:=this i (by rw[h1];exact hi)
  have:m=n':=by omega
  subst this
  exact hm
 |.alt i p rest,b,L,n,st,h,hw,ha=>by
  simp only[planOKT,Bool.and_eq_true,Bool.not_eq_true'] at h
  refine⟨fun hb=>by rw[hb] at h;simp at h,fun _=>?_⟩
  cases n with
  |zero=>simp at h
  |succ n=>
   simp only[Bool.and_eq_true] at h
   obtain⟨_,⟨h1,h2⟩,h3⟩:=h
   have h1:i∈Region.ready .any ops L:=by simpa using h1
   intro j hj
   simp only[Plan.alts,List.mem_cons] at hj
   rcases hj with rfl|hj
   ·exact⟨n,rfl,AStepT.mono ha.1 fun s hs=>(planT_ok hv p true _ n s h2 (hw.add hv h1) hs).1 rfl⟩
   ·exact(planT_ok hv rest false L (n+1) st h3 hw ha.2).2 rfl j hj
 |.ends,b,L,n,st,h,hw,ha=>by
  simp only[planOKT,Bool.not_eq_true'] at h
  exact⟨fun hb=>by rw[hb] at h;simp at h,fun _ i hi=>by simp[Plan.alts] at hi⟩
theorem AWP.regionAnyT{id:Nat}{l:List Oper}{Q:Exit→St→Prop}{st:St}(x:Plan)(anc:List (List Nat))(ds:List Tmp)(hm:E.P.follows .mixedOrders=true)
 (hx:(listedOK l.toArray anc&&planOKT E.P l.toArray anc true x (Array.replicate l.toArray.size false) l.toArray.size)=true) (h:APlanT E l.toArray (Done (Q .normal)) x (st.keep ds)):AWP E (.region id l.toArray true) Q st:=fun w0 im0 cx a w h0 hG r=>by
 simp only[Bool.and_eq_true] at hx
 have r':Rel w0 im0 cx st a w.drew:=⟨r.defers,r.size,r.tmps,r.below.drew,r.imle,r.imold,r.imok,r.ownlen,fun i g k es h1 h2=>let h3:=r.own i g k es h1 h2;⟨h3.new,h3.im,h3.blk⟩,r.tklen,r.tail,fun t T b h1 h2=>let h3:=r.tok t T b h1 h2;⟨h3.new,h3.room,h3.im,h3.blk⟩,r.apart,r.glob,r.up,r.hole⟩
 have r2:=r'.reserve ds.length (l:=mkRsv ds st.own.length) (fun d i hmem=>(mem_mkRsv hmem).2)
 refine wp_region_any hm (aany_sound h0 hG (K:=Done (Q .normal)) (fun a' w' hh=>?_) _ _ (st.keep ds) _ a _ r2 ?_)
 ·obtain⟨c',st',r3,hk⟩:=hh
  exact⟨c',{ st' with rsv:=none },⟨r3.defers,r3.size,r3.tmps,r3.below,r3.imle,r3.imold,r3.imok,r3.ownlen,r3.own,r3.tklen,r3.tail,r3.tok,r3.apart,r3.glob,r3.up,fun l d i e=>by cases e⟩,hk⟩
 ·refine((planT_ok hx.1 x true _ _ _ hx.2 ?_ h).1 rfl).drop
  intro m hm
  exfalso
  simp only[Array.getD_eq_getD_getElem?,Array.getElem?_replicate] at hm
  split at hm<;>simp at hm
@[go_sem] theorem apT_done{st:St}:APlanT E ops K .done st=K st:=rfl
@[go_sem] theorem apT_take{st:St}{i:Nat}{p:Plan}:APlanT E ops K (.take i p) st=(tokOp st ops[i]?∧AList E ops (ops[i]?).toList st (APlanT E ops K p)):=by
 show(_∧AStep E ops i (APlanT E ops K p) st)=_
 rw[astep_list]
@[go_sem] theorem apT_fork{st:St}{p:Plan}:APlanT E ops K (.fork p) st=APlanT E ops K p st:=rfl
@[go_sem] theorem apT_alt{st:St}{i:Nat}{p r:Plan}:APlanT E ops K (.alt i p r) st=((tokOp st ops[i]?∧AList E ops (ops[i]?).toList st (APlanT E ops K p))∧APlanT E ops K r st):=by
 show((_∧AStep E ops i (APlanT E ops K p) st)∧_)=_
 rw[astep_list]
@[go_sem] theorem apT_ends{st:St}:APlanT E ops K .ends st=True:=rfl
end
attribute [go_sem] tokOp notMu
end Go.Abs
namespace Go.Abs
open Go Go.RowKit
def MuStep(E:Env)(o:Oper)(C:St→Prop)(st:St):Prop:=o.guard=none∧
 ((∃t e k n,o.op= .buildSlice t 0 #[]∧appInfo E.P t=some (e,k,n)∧C (St.put { st with own:=st.own++[some []] } o.dst (.mu st.own.length k 0 0 0)))∨
  ∃t tx x y e k n id xs,o.op= .call ⟨.builtin .append,#[x,y],#[t,tx]⟩∧srcTy E.P tx=true∧appInfo E.P t=some (e,k,n)∧st.ev x= .mu id k 0 0 0∧ASrc (st.ev y) k=some xs∧st.own[id]?=some (some [])∧xs.length≤4611686018427387904∧xs.length*n≤140737488355328∧
   ∀m,C (St.put { st with own:=st.own.set id none++[some (xs++spare k m)] } o.dst (.mu st.own.length k 0 xs.length (xs.length+m))))
def AStepM(E:Env)(ops:Array Oper)(ms:List Nat)(i:Nat)(C:St→Prop)(st:St):Prop:=if ms.contains i=true then ∃o,ops[i]?=some o∧MuStep E o C st else tokOp st ops[i]?∧AStep E ops i C st
def APlanM(E:Env)(ops:Array Oper)(ms:List Nat)(K:St→Prop):Plan→St→Prop
 |.done,st=>K st
 |.take i p,st=>AStepM E ops ms i (APlanM E ops ms K p) st
 |.fork p,st=>APlanM E ops ms K p st
 |.alt i p rest,st=>AStepM E ops ms i (APlanM E ops ms K p) st∧APlanM E ops ms K rest st
 |.ends,_=>True
section
variable{E:Env}{ops:Array Oper}{ms:List Nat}{K:St→Prop}{anc:List (List Nat)}
theorem MuStep.mono{o:Oper}{C D:St→Prop}{st:St}(h:MuStep E o C st)(hk:∀s,C s→D s):MuStep E o D st:=by
 obtain⟨hg,⟨t,e,k,n,ho,ha,hc⟩|⟨t,tx,x,y,e,k,n,id,xs,ho,h1,h2,h3,h4,h5,h6,h7,hc⟩⟩:=h
 ·exact⟨hg,.inl ⟨t,e,k,n,ho,ha,hk _ hc⟩⟩
 ·exact⟨hg,.inr ⟨t,tx,x,y,e,k,n,id,xs,ho,h1,h2,h3,h4,h5,h6,h7,fun m=>hk _ (hc m)⟩⟩
theorem AStepM.mono{i:Nat}{C D:St→Prop}{st:St}(hk:AStepM E ops ms i C st)(h:∀s,C s→D s):AStepM E ops ms i D st:=by
 unfold AStepM at *
 split
 ·rename_i hi;rw[if_pos hi] at hk;obtain⟨o,h1,h2⟩:=hk;exact⟨o,h1,h2.mono h⟩
 ·rename_i hi;rw[if_neg hi] at hk;exact⟨hk.1,hk.2.mono h⟩
@[go_sem] theorem apM_done{st:St}:APlanM E ops ms K .done st=K st:=rfl
def AMuO(E:Env)(o:Option Oper)(C:St→Prop)(st:St):Prop:=match o with
 |some o=>MuStep E o C st
 |none=>False
theorem astepM_eq{i:Nat}{C:St→Prop}{st:St}:AStepM E ops ms i C st=if ms.contains i=true then AMuO E (ops[i]?) C st else(tokOp st ops[i]?∧AList E ops (ops[i]?).toList st C):=by
 unfold AStepM
 split
 ·cases ops[i]? with
  |none=>simp[AMuO]
  |some o=>simp[AMuO]
 ·rw[astep_list]
@[go_sem] theorem apM_take{st:St}{i:Nat}{p:Plan}:APlanM E ops ms K (.take i p) st=if ms.contains i=true then AMuO E (ops[i]?) (APlanM E ops ms K p) st else(tokOp st ops[i]?∧AList E ops (ops[i]?).toList st (APlanM E ops ms K p)):=astepM_eq
@[go_sem] theorem apM_fork{st:St}{p:Plan}:APlanM E ops ms K (.fork p) st=APlanM E ops ms K p st:=rfl
@[go_sem] theorem apM_alt{st:St}{i:Nat}{p r:Plan}:APlanM E ops ms K (.alt i p r) st=((if ms.contains i=true then AMuO E (ops[i]?) (APlanM E ops ms K p) st else(tokOp st ops[i]?∧AList E ops (ops[i]?).toList st (APlanM E ops ms K p)))∧APlanM E ops ms K r st):=by
 show(AStepM E ops ms i (APlanM E ops ms K p) st∧_)=_
 rw[astepM_eq]
@[go_sem] theorem apM_ends{st:St}:APlanM E ops ms K .ends st=True:=rfl
def AMuTo(x:AV)(k n:Nat)(src:Option (List AV))(st:St)(C:St→AV→Prop):Prop:=match x with
 |.mu id q off len cap=>q=k∧off=0∧len=0∧cap=0∧AGet src fun xs=>xs.length≤4611686018427387904∧xs.length*n≤140737488355328∧AGet2 st.own[id]? fun l=>l=[]∧
   ∀m,C { st with own:=st.own.set id none++[some (xs++spare k m)] } (.mu st.own.length k 0 xs.length (xs.length+m))
 |_=>False
@[go_sem] theorem mu_slice{d:Option Tmp}{t ty:TypeId}{pos:String}{after:Array Edge}{C:St→Prop}{st:St}:AMuO E (some ⟨d,.buildSlice t 0 #[],ty,pos,after,none⟩) C st=AGet (appInfo E.P t) fun q=>C (St.put { st with own:=st.own++[some []] } d (.mu st.own.length q.2.1 0 0 0)):=by
 refine propext ⟨?_,?_⟩
 ·rintro⟨_,⟨t',e,k,n,ho,ha,hc⟩|⟨_,_,_,_,_,_,_,_,_,ho,_⟩⟩
  ·cases ho;exact⟨_,ha,hc⟩
  ·cases ho
 ·rintro⟨⟨e,k,n⟩,ha,hc⟩
  exact⟨rfl,.inl ⟨t,e,k,n,rfl,ha,hc⟩⟩
@[go_sem] theorem mu_app{d:Option Tmp}{t tx ty:TypeId}{x y:Operand}{pos:String}{after:Array Edge}{C:St→Prop}{st:St}:AMuO E (some ⟨d,.call ⟨.builtin .append,#[x,y],#[t,tx]⟩,ty,pos,after,none⟩) C st =
   (srcTy E.P tx=true∧AGet (appInfo E.P t) fun q=>AMuTo (st.ev x) q.2.1 q.2.2 (ASrc (st.ev y) q.2.1) st fun st' z=>C (st'.put d z)):=by
 refine propext ⟨?_,?_⟩
 ·rintro⟨_,⟨_,_,_,_,ho,_⟩|⟨t',tx',x',y',e,k,n,id,xs,ho,h1,h2,h3,h4,h5,h6,h7,hc⟩⟩
  ·cases ho
  ·cases ho
   refine⟨h1,_,h2,?_⟩
   rw[h3]
   exact⟨rfl,rfl,rfl,rfl,_,h4,h6,h7,_,h5,rfl,hc⟩
 ·rintro⟨h1,⟨e,k,n⟩,h2,h3⟩
  unfold AMuTo at h3
  split at h3
  ·rename_i id q off len cap hx
   obtain⟨rfl,rfl,rfl,rfl,xs,h4,h6,h7,l,h5,rfl,hc⟩:=h3
   exact⟨rfl,.inr ⟨t,tx,x,y,e,_,n,id,xs,rfl,h1,h2,hx,h4,h5,h6,h7,hc⟩⟩
  ·exact h3.elim
end
attribute [go_sem] AMuTo
end Go.Abs
namespace Go.Abs
open Go Go.RowKit
structure Cut(p:Prop):Prop where
 out:p
theorem AWP.cutAt{E:Env}{Q:Exit→St→Prop}{K:St→Prop}{st:St}{x y:Code}{ι:Type}(hv:List Nat)(ps:ι→List (Nat×AV))(own:ι→List (Option (List AV)))(tk:ι→List Nat)(hK:∀s,AWP E y Q s→K s)
 (rest:∀i,Cut (AWP E y Q (st.at hv (ps i) (own i) (tk i)))) (h:(∀i,AWP E y Q (st.at hv (ps i) (own i) (tk i)))→AWP E x (AThen K Q) st):AWP E x (AThen K Q) st:=h fun i=>(rest i).out
theorem AWP.cutTo{E:Env}{y:Code}{Q:Exit→St→Prop}{ι:Type}{S:ι→St}(hc:∀i,AWP E y Q (S i)){s:St}(h:AWP E y Q s):AWP E y Q s:=h
end Go.Abs
namespace Go.Abs
open Go Go.RowKit
end Go.Abs
namespace Go.Abs
open Go Go.RowKit
theorem AWPL.sliceMu{E:Env}{Q:Exit→St→Prop}{st:St}{ops:Array Oper}{rest:List Oper}{dst:Option Tmp}{t ty:TypeId}{x lo:Operand}{pos:String}{after:Array Edge}{e:TypeId}{k id off len cap l:Nat}
 (hu:E.P.underlying t=some (.slice e)) (hsz:tsz E.P e=some k) (hs:st.ev x= .mu id k off len cap) (hl:st.ev lo=i64 (l:Int)) (h1:l≤len) (h2:l<cap) (h0:0<len)
 (h:AWPL E ops rest Q (st.put dst (.mu id k (off+l) (len-l) (cap-l)))):AWPL E ops (⟨dst,.slice t x (some lo) none none,ty,pos,after,none⟩::rest) Q st:=by
 intro w0 im0 cx a w h0' hG r
 refine wpList_step (fun K' hK'=>?_)
 have hw:Region.wanted ⟨dst,.slice t x (some lo) none none,ty,pos,after,none⟩ (yielded ops a.tmps)=true:=rfl
 rw[if_pos hw]
 have hv:=r.ev x
 rw[hs] at hv
 have hlv:=r.ev lo
 rw[hl] at hlv
 have hlo:=hlv.inv_v
 rcases hv.inv_mu with⟨g,hb,hcap,hve⟩|⟨hz,_,_⟩
 rotate_left
 ·omega
 have hbr:=bounds_run (P:=E.P) (w:=w) (c:=cx) (isS:=true) (len:=len) (cap:=cap) (lo:=some (i64 (l:Int))) (hi:=none) (vl:=some (a.eval lo)) (vh:=none) (l:=(l:Int)) (h:=(len:Int))
  (fun y hy=>by cases hy;exact⟨_,rfl,hlv⟩) (fun hy=>by cases hy) (fun y hy=>by cases hy) (fun _=>rfl) rfl rfl (by omega) (by omega) (by omega) hcap
 have hrun:(Instr.sliceAt t (a.eval x) (some (a.eval lo)) none none).run E.P w= .ok (.slice (some ⟨g,(off+l)*k,none⟩) (len-l) (cap-l)) w:=by
  rw[hve]
  simp only[Instr.sliceAt,Sem.run_bind,underlying_run hu,Result.andThen_ok,Instr.slice,hbr,tsz_run hsz,Sem.run_pure]
  have hne:¬cap=l:=by omega
  simp[hne,Addr.add,Nat.add_mul]
 refine wp_value (w':=w) (v:= .slice (some ⟨g,(off+l)*k,none⟩) (len-l) (cap-l)) ?_ (hK' _ _ (h w0 im0 _ _ _ h0' hG (r.put dst (.mu hb (by omega)))))
 simp only[execOp,Option.map_some,Option.map_none,Sem.run_bind,hrun,Result.andThen_ok,Sem.run_pure]
theorem inb_ret{id:Nat}{Q:Exit→St→Prop}{s:St}:AInBlock id Q .ret s=Q .ret s:=rfl
theorem athen_ret{n:St→Prop}{Q:Exit→St→Prop}{s:St}:AThen n Q .ret s=Q .ret s:=rfl
theorem ACalls.untok{E:Env}{f:FuncId}{args:List AV}{k n t0:Nat}{es:List AV}(h:ACalls E f args fun r t=>r= .sl (some t0) k es∧t=[n]):ACalls E f args fun r t=>r= .sl none k es∧t=[]:=
 fun w im vs h0 hg h1 h2=>(h w im vs h0 hg h1 h2).mono fun _ _ ⟨v,r,tks,im',a,b,d,e,f,g,i,j⟩=>by
  obtain⟨rfl,_⟩:=j
  exact⟨v,_,[],im',a,b,d,e,f,⟨fun i T b h=>by simp at h,fun i j T U b d h=>by simp at h⟩,.base i.sl_base,rfl,rfl⟩
end Go.Abs
end
section
namespace Go.Proofs.YthoonfpkfdjhiaaGreatDoor
open Go Go.Abs
theorem ld2:loadInfo Tryz.prog 2=some (false,1):=by kernel_rfl
theorem ld3:loadInfo Tryz.prog 3=some (false,1):=by kernel_rfl
theorem ld4:loadInfo Tryz.prog 4=some (false,1):=by kernel_rfl
theorem ld5:loadInfo Tryz.prog 5=some (false,1):=by kernel_rfl
theorem ld9:loadInfo Tryz.prog 9=some (false,1):=by kernel_rfl
theorem ld23:loadInfo Tryz.prog 23=some (true,8):=by kernel_rfl
theorem ld25:loadInfo Tryz.prog 25=some (true,10):=by kernel_rfl
theorem ld27:loadInfo Tryz.prog 27=some (true,6):=by kernel_rfl
theorem ld29:loadInfo Tryz.prog 29=some (true,29):=by kernel_rfl
theorem ld30:loadInfo Tryz.prog 30=some (false,1):=by kernel_rfl
theorem ld47:loadInfo Tryz.prog 47=some (true,4):=by kernel_rfl
theorem ld49:loadInfo Tryz.prog 49=some (true,4):=by kernel_rfl
theorem ld51:loadInfo Tryz.prog 51=some (true,6):=by kernel_rfl
theorem ld52:loadInfo Tryz.prog 52=some (false,1):=by kernel_rfl
theorem ld53:loadInfo Tryz.prog 53=some (false,1):=by kernel_rfl
theorem ld55:loadInfo Tryz.prog 55=some (true,5):=by kernel_rfl
theorem ld57:loadInfo Tryz.prog 57=some (true,13):=by kernel_rfl
theorem ld68:loadInfo Tryz.prog 68=some (true,2):=by kernel_rfl
theorem ld78:loadInfo Tryz.prog 78=some (true,18):=by kernel_rfl
theorem ld80:loadInfo Tryz.prog 80=some (false,1):=by kernel_rfl
theorem ld83:loadInfo Tryz.prog 83=some (true,2):=by kernel_rfl
theorem ld101:loadInfo Tryz.prog 101=some (false,1):=by kernel_rfl
theorem ld102:loadInfo Tryz.prog 102=some (false,1):=by kernel_rfl
theorem ld103:loadInfo Tryz.prog 103=some (false,1):=by kernel_rfl
theorem ld105:loadInfo Tryz.prog 105=some (true,5):=by kernel_rfl
theorem ld107:loadInfo Tryz.prog 107=some (true,8):=by kernel_rfl
theorem ld110:loadInfo Tryz.prog 110=some (false,1):=by kernel_rfl
theorem ld146:loadInfo Tryz.prog 146=some (true,9):=by kernel_rfl
theorem ld165:loadInfo Tryz.prog 165=some (true,4):=by kernel_rfl
theorem ld203:loadInfo Tryz.prog 203=some (false,1):=by kernel_rfl
theorem ld223:loadInfo Tryz.prog 223=some (false,1):=by kernel_rfl
theorem ld238:loadInfo Tryz.prog 238=some (true,2):=by kernel_rfl
theorem ld321:loadInfo Tryz.prog 321=some (false,1):=by kernel_rfl
theorem fi23_0:fieldInfo Tryz.prog 23 0=some (0,9,1):=by kernel_rfl
theorem fi23_1:fieldInfo Tryz.prog 23 1=some (1,9,1):=by kernel_rfl
theorem fi23_2:fieldInfo Tryz.prog 23 2=some (2,9,1):=by kernel_rfl
theorem fi23_3:fieldInfo Tryz.prog 23 3=some (3,4,1):=by kernel_rfl
theorem fi23_4:fieldInfo Tryz.prog 23 4=some (4,2,1):=by kernel_rfl
theorem fi23_5:fieldInfo Tryz.prog 23 5=some (5,2,1):=by kernel_rfl
theorem fi23_6:fieldInfo Tryz.prog 23 6=some (6,2,1):=by kernel_rfl
theorem fi23_7:fieldInfo Tryz.prog 23 7=some (7,4,1):=by kernel_rfl
theorem fi25_0:fieldInfo Tryz.prog 25 0=some (0,9,1):=by kernel_rfl
theorem fi25_1:fieldInfo Tryz.prog 25 1=some (1,9,1):=by kernel_rfl
theorem fi25_2:fieldInfo Tryz.prog 25 2=some (2,9,1):=by kernel_rfl
theorem fi25_3:fieldInfo Tryz.prog 25 3=some (3,9,1):=by kernel_rfl
theorem fi25_4:fieldInfo Tryz.prog 25 4=some (4,9,1):=by kernel_rfl
theorem fi25_5:fieldInfo Tryz.prog 25 5=some (5,3,1):=by kernel_rfl
theorem fi25_6:fieldInfo Tryz.prog 25 6=some (6,4,1):=by kernel_rfl
theorem fi25_7:fieldInfo Tryz.prog 25 7=some (7,2,1):=by kernel_rfl
theorem fi25_8:fieldInfo Tryz.prog 25 8=some (8,2,1):=by kernel_rfl
theorem fi25_9:fieldInfo Tryz.prog 25 9=some (9,2,1):=by kernel_rfl
theorem fi27_0:fieldInfo Tryz.prog 27 0=some (0,9,1):=by kernel_rfl
theorem fi27_1:fieldInfo Tryz.prog 27 1=some (1,9,1):=by kernel_rfl
theorem fi27_2:fieldInfo Tryz.prog 27 2=some (2,2,1):=by kernel_rfl
theorem fi27_3:fieldInfo Tryz.prog 27 3=some (3,2,1):=by kernel_rfl
theorem fi27_4:fieldInfo Tryz.prog 27 4=some (4,2,1):=by kernel_rfl
theorem fi27_5:fieldInfo Tryz.prog 27 5=some (5,2,1):=by kernel_rfl
theorem fi29_0:fieldInfo Tryz.prog 29 0=some (0,3,1):=by kernel_rfl
theorem fi29_1:fieldInfo Tryz.prog 29 1=some (1,3,1):=by kernel_rfl
theorem fi29_2:fieldInfo Tryz.prog 29 2=some (2,23,8):=by kernel_rfl
theorem fi29_3:fieldInfo Tryz.prog 29 3=some (10,9,1):=by kernel_rfl
theorem fi29_4:fieldInfo Tryz.prog 29 4=some (11,25,10):=by kernel_rfl
theorem fi29_5:fieldInfo Tryz.prog 29 5=some (21,2,1):=by kernel_rfl
theorem fi29_6:fieldInfo Tryz.prog 29 6=some (22,4,1):=by kernel_rfl
theorem fi29_7:fieldInfo Tryz.prog 29 7=some (23,27,6):=by kernel_rfl
theorem fi46_0:fieldInfo Tryz.prog 46 0=some (0,30,1):=by kernel_rfl
theorem fi46_1:fieldInfo Tryz.prog 46 1=some (1,30,1):=by kernel_rfl
theorem fi49_0:fieldInfo Tryz.prog 49 0=some (0,47,4):=by kernel_rfl
theorem fi51_0:fieldInfo Tryz.prog 51 0=some (0,49,4):=by kernel_rfl
theorem fi51_1:fieldInfo Tryz.prog 51 1=some (4,3,1):=by kernel_rfl
theorem fi51_2:fieldInfo Tryz.prog 51 2=some (5,2,1):=by kernel_rfl
theorem fi55_0:fieldInfo Tryz.prog 55 0=some (0,52,1):=by kernel_rfl
theorem fi55_1:fieldInfo Tryz.prog 55 1=some (1,53,1):=by kernel_rfl
theorem fi55_2:fieldInfo Tryz.prog 55 2=some (2,4,1):=by kernel_rfl
theorem fi55_3:fieldInfo Tryz.prog 55 3=some (3,2,1):=by kernel_rfl
theorem fi55_4:fieldInfo Tryz.prog 55 4=some (4,2,1):=by kernel_rfl
theorem fi57_0:fieldInfo Tryz.prog 57 0=some (0,3,1):=by kernel_rfl
theorem fi57_1:fieldInfo Tryz.prog 57 1=some (1,2,1):=by kernel_rfl
theorem fi57_2:fieldInfo Tryz.prog 57 2=some (2,51,6):=by kernel_rfl
theorem fi57_3:fieldInfo Tryz.prog 57 3=some (8,55,5):=by kernel_rfl
theorem fi78_0:fieldInfo Tryz.prog 78 0=some (0,3,1):=by kernel_rfl
theorem fi78_1:fieldInfo Tryz.prog 78 1=some (1,2,1):=by kernel_rfl
theorem fi78_2:fieldInfo Tryz.prog 78 2=some (2,2,1):=by kernel_rfl
theorem fi78_3:fieldInfo Tryz.prog 78 3=some (3,4,1):=by kernel_rfl
theorem fi78_4:fieldInfo Tryz.prog 78 4=some (4,2,1):=by kernel_rfl
theorem fi78_5:fieldInfo Tryz.prog 78 5=some (5,2,1):=by kernel_rfl
theorem fi78_6:fieldInfo Tryz.prog 78 6=some (6,4,1):=by kernel_rfl
theorem fi78_7:fieldInfo Tryz.prog 78 7=some (7,9,1):=by kernel_rfl
theorem fi78_8:fieldInfo Tryz.prog 78 8=some (8,25,10):=by kernel_rfl
theorem fi83_0:fieldInfo Tryz.prog 83 0=some (0,3,1):=by kernel_rfl
theorem fi83_1:fieldInfo Tryz.prog 83 1=some (1,9,1):=by kernel_rfl
theorem fi105_0:fieldInfo Tryz.prog 105 0=some (0,101,1):=by kernel_rfl
theorem fi105_1:fieldInfo Tryz.prog 105 1=some (1,102,1):=by kernel_rfl
theorem fi105_2:fieldInfo Tryz.prog 105 2=some (2,103,1):=by kernel_rfl
theorem fi105_3:fieldInfo Tryz.prog 105 3=some (3,2,1):=by kernel_rfl
theorem fi105_4:fieldInfo Tryz.prog 105 4=some (4,3,1):=by kernel_rfl
theorem fi107_0:fieldInfo Tryz.prog 107 0=some (0,105,5):=by kernel_rfl
theorem fi107_1:fieldInfo Tryz.prog 107 1=some (5,101,1):=by kernel_rfl
theorem fi107_2:fieldInfo Tryz.prog 107 2=some (6,2,1):=by kernel_rfl
theorem fi107_3:fieldInfo Tryz.prog 107 3=some (7,4,1):=by kernel_rfl
theorem fi146_0:fieldInfo Tryz.prog 146 0=some (0,9,1):=by kernel_rfl
theorem fi146_1:fieldInfo Tryz.prog 146 1=some (1,9,1):=by kernel_rfl
theorem fi146_2:fieldInfo Tryz.prog 146 2=some (2,9,1):=by kernel_rfl
theorem fi146_3:fieldInfo Tryz.prog 146 3=some (3,9,1):=by kernel_rfl
theorem fi146_4:fieldInfo Tryz.prog 146 4=some (4,4,1):=by kernel_rfl
theorem fi146_5:fieldInfo Tryz.prog 146 5=some (5,2,1):=by kernel_rfl
theorem fi146_6:fieldInfo Tryz.prog 146 6=some (6,2,1):=by kernel_rfl
theorem fi146_7:fieldInfo Tryz.prog 146 7=some (7,2,1):=by kernel_rfl
theorem fi146_8:fieldInfo Tryz.prog 146 8=some (8,4,1):=by kernel_rfl
theorem fi165_0:fieldInfo Tryz.prog 165 0=some (0,2,1):=by kernel_rfl
theorem fi165_1:fieldInfo Tryz.prog 165 1=some (1,30,1):=by kernel_rfl
theorem fi165_2:fieldInfo Tryz.prog 165 2=some (2,110,1):=by kernel_rfl
theorem fi165_3:fieldInfo Tryz.prog 165 3=some (3,3,1):=by kernel_rfl
theorem fi238_0:fieldInfo Tryz.prog 238 0=some (0,2,1):=by kernel_rfl
theorem fi238_1:fieldInfo Tryz.prog 238 1=some (1,2,1):=by kernel_rfl
theorem fi259_0:fieldInfo Tryz.prog 259 0=some (0,256,3):=by kernel_rfl
theorem fi259_1:fieldInfo Tryz.prog 259 1=some (3,257,256):=by kernel_rfl
theorem fi278_0:fieldInfo Tryz.prog 278 0=some (0,2,1):=by kernel_rfl
theorem fi278_1:fieldInfo Tryz.prog 278 1=some (1,4,1):=by kernel_rfl
theorem fi278_2:fieldInfo Tryz.prog 278 2=some (2,4,1):=by kernel_rfl
theorem fi278_3:fieldInfo Tryz.prog 278 3=some (3,3,1):=by kernel_rfl
theorem ix30:idxInfo Tryz.prog 30=some (none,5,1):=by kernel_rfl
theorem ix42:idxInfo Tryz.prog 42=some (none,29,29):=by kernel_rfl
theorem ix43:idxInfo Tryz.prog 43=some (none,4,1):=by kernel_rfl
theorem ix47:idxInfo Tryz.prog 47=some (some 2,46,2):=by kernel_rfl
theorem ix52:idxInfo Tryz.prog 52=some (none,107,8):=by kernel_rfl
theorem ix53:idxInfo Tryz.prog 53=some (none,27,6):=by kernel_rfl
theorem ix60:idxInfo Tryz.prog 60=some (none,55,5):=by kernel_rfl
theorem ix68:idxInfo Tryz.prog 68=some (some 2,3,1):=by kernel_rfl
theorem ix80:idxInfo Tryz.prog 80=some (none,83,2):=by kernel_rfl
theorem ix101:idxInfo Tryz.prog 101=some (none,23,8):=by kernel_rfl
theorem ix102:idxInfo Tryz.prog 102=some (none,146,9):=by kernel_rfl
theorem ix103:idxInfo Tryz.prog 103=some (none,9,1):=by kernel_rfl
theorem ix110:idxInfo Tryz.prog 110=some (none,30,1):=by kernel_rfl
theorem ix128:idxInfo Tryz.prog 128=some (some 7,9,1):=by kernel_rfl
theorem ix178:idxInfo Tryz.prog 178=some (none,2,1):=by kernel_rfl
theorem ix257:idxInfo Tryz.prog 257=some (some 256,203,1):=by kernel_rfl
theorem ix308:idxInfo Tryz.prog 308=some (some 5,4,1):=by kernel_rfl
theorem ap30:appInfo Tryz.prog 30=some (5,1,1):=by kernel_rfl
theorem ap52:appInfo Tryz.prog 52=some (107,8,128):=by kernel_rfl
theorem ap53:appInfo Tryz.prog 53=some (27,6,64):=by kernel_rfl
theorem ap60:appInfo Tryz.prog 60=some (55,5,72):=by kernel_rfl
theorem ap80:appInfo Tryz.prog 80=some (83,2,24):=by kernel_rfl
theorem ap101:appInfo Tryz.prog 101=some (23,8,88):=by kernel_rfl
theorem ap102:appInfo Tryz.prog 102=some (146,9,104):=by kernel_rfl
theorem ap103:appInfo Tryz.prog 103=some (9,1,16):=by kernel_rfl
theorem ap110:appInfo Tryz.prog 110=some (30,1,24):=by kernel_rfl
theorem ap178:appInfo Tryz.prog 178=some (2,1,8):=by kernel_rfl
theorem ap223:appInfo Tryz.prog 223=some (83,2,24):=by kernel_rfl
theorem sz2:tsz Tryz.prog 2=some 1:=by kernel_rfl
theorem sz3:tsz Tryz.prog 3=some 1:=by kernel_rfl
theorem sz4:tsz Tryz.prog 4=some 1:=by kernel_rfl
theorem sz5:tsz Tryz.prog 5=some 1:=by kernel_rfl
theorem sz9:tsz Tryz.prog 9=some 1:=by kernel_rfl
theorem sz23:tsz Tryz.prog 23=some 8:=by kernel_rfl
theorem sz25:tsz Tryz.prog 25=some 10:=by kernel_rfl
theorem sz27:tsz Tryz.prog 27=some 6:=by kernel_rfl
theorem sz29:tsz Tryz.prog 29=some 29:=by kernel_rfl
theorem sz30:tsz Tryz.prog 30=some 1:=by kernel_rfl
theorem sz46:tsz Tryz.prog 46=some 2:=by kernel_rfl
theorem sz49:tsz Tryz.prog 49=some 4:=by kernel_rfl
theorem sz51:tsz Tryz.prog 51=some 6:=by kernel_rfl
theorem sz52:tsz Tryz.prog 52=some 1:=by kernel_rfl
theorem sz53:tsz Tryz.prog 53=some 1:=by kernel_rfl
theorem sz55:tsz Tryz.prog 55=some 5:=by kernel_rfl
theorem sz57:tsz Tryz.prog 57=some 13:=by kernel_rfl
theorem sz68:tsz Tryz.prog 68=some 2:=by kernel_rfl
theorem sz78:tsz Tryz.prog 78=some 18:=by kernel_rfl
theorem sz83:tsz Tryz.prog 83=some 2:=by kernel_rfl
theorem sz101:tsz Tryz.prog 101=some 1:=by kernel_rfl
theorem sz102:tsz Tryz.prog 102=some 1:=by kernel_rfl
theorem sz103:tsz Tryz.prog 103=some 1:=by kernel_rfl
theorem sz105:tsz Tryz.prog 105=some 5:=by kernel_rfl
theorem sz107:tsz Tryz.prog 107=some 8:=by kernel_rfl
theorem sz128:tsz Tryz.prog 128=some 7:=by kernel_rfl
theorem sz146:tsz Tryz.prog 146=some 9:=by kernel_rfl
theorem sz165:tsz Tryz.prog 165=some 4:=by kernel_rfl
theorem sz203:tsz Tryz.prog 203=some 1:=by kernel_rfl
theorem sz223:tsz Tryz.prog 223=some 1:=by kernel_rfl
theorem sz238:tsz Tryz.prog 238=some 2:=by kernel_rfl
theorem sz259:tsz Tryz.prog 259=some 259:=by kernel_rfl
theorem sz278:tsz Tryz.prog 278=some 4:=by kernel_rfl
theorem sz308:tsz Tryz.prog 308=some 5:=by kernel_rfl
theorem sz321:tsz Tryz.prog 321=some 1:=by kernel_rfl
theorem sr9:srcTy Tryz.prog 9=true:=by kernel_rfl
theorem sr30:srcTy Tryz.prog 30=true:=by kernel_rfl
theorem sr52:srcTy Tryz.prog 52=true:=by kernel_rfl
theorem sr53:srcTy Tryz.prog 53=true:=by kernel_rfl
theorem sr60:srcTy Tryz.prog 60=true:=by kernel_rfl
theorem sr80:srcTy Tryz.prog 80=true:=by kernel_rfl
theorem sr101:srcTy Tryz.prog 101=true:=by kernel_rfl
theorem sr102:srcTy Tryz.prog 102=true:=by kernel_rfl
theorem sr103:srcTy Tryz.prog 103=true:=by kernel_rfl
theorem sr110:srcTy Tryz.prog 110=true:=by kernel_rfl
theorem sr223:srcTy Tryz.prog 223=true:=by kernel_rfl
theorem fk23:flatKinds Tryz.prog 23=some [1,1,1,2,0,0,0,2]:=by kernel_rfl
theorem fk25:flatKinds Tryz.prog 25=some [1,1,1,1,1,0,2,0,0,0]:=by kernel_rfl
theorem fk27:flatKinds Tryz.prog 27=some [1,1,0,0,0,0]:=by kernel_rfl
theorem fk29:flatKinds Tryz.prog 29=some [0,0,1,1,1,2,0,0,0,2,1,1,1,1,1,1,0,2,0,0,0,0,2,1,1,0,0,0,0]:=by kernel_rfl
theorem fk78:flatKinds Tryz.prog 78=some [0,0,0,2,0,0,2,1,1,1,1,1,1,0,2,0,0,0]:=by kernel_rfl
theorem fk146:flatKinds Tryz.prog 146=some [1,1,1,1,2,0,0,0,2]:=by kernel_rfl
theorem cc9:Tryz.prog.concrete 9=true:=by kernel_rfl
theorem cl7:callable Tryz.prog 7=true:=by kernel_rfl
theorem cl8:callable Tryz.prog 8=true:=by kernel_rfl
theorem cl9:callable Tryz.prog 9=true:=by kernel_rfl
theorem cl10:callable Tryz.prog 10=true:=by kernel_rfl
theorem cl11:callable Tryz.prog 11=true:=by kernel_rfl
theorem cl12:callable Tryz.prog 12=true:=by kernel_rfl
theorem cl13:callable Tryz.prog 13=true:=by kernel_rfl
theorem cl14:callable Tryz.prog 14=true:=by kernel_rfl
theorem cl15:callable Tryz.prog 15=true:=by kernel_rfl
theorem cl16:callable Tryz.prog 16=true:=by kernel_rfl
theorem cl17:callable Tryz.prog 17=true:=by kernel_rfl
theorem cl18:callable Tryz.prog 18=true:=by kernel_rfl
theorem cl19:callable Tryz.prog 19=true:=by kernel_rfl
theorem cl20:callable Tryz.prog 20=true:=by kernel_rfl
theorem cl21:callable Tryz.prog 21=true:=by kernel_rfl
theorem cl22:callable Tryz.prog 22=true:=by kernel_rfl
theorem cl23:callable Tryz.prog 23=true:=by kernel_rfl
theorem cl24:callable Tryz.prog 24=true:=by kernel_rfl
theorem cl25:callable Tryz.prog 25=true:=by kernel_rfl
theorem cl26:callable Tryz.prog 26=true:=by kernel_rfl
theorem cl27:callable Tryz.prog 27=true:=by kernel_rfl
theorem cl28:callable Tryz.prog 28=true:=by kernel_rfl
theorem cl29:callable Tryz.prog 29=true:=by kernel_rfl
theorem cl30:callable Tryz.prog 30=true:=by kernel_rfl
theorem cl31:callable Tryz.prog 31=true:=by kernel_rfl
theorem cl32:callable Tryz.prog 32=true:=by kernel_rfl
theorem cl33:callable Tryz.prog 33=true:=by kernel_rfl
theorem cl34:callable Tryz.prog 34=true:=by kernel_rfl
theorem cl35:callable Tryz.prog 35=true:=by kernel_rfl
theorem cl36:callable Tryz.prog 36=true:=by kernel_rfl
theorem cl37:callable Tryz.prog 37=true:=by kernel_rfl
theorem cl38:callable Tryz.prog 38=true:=by kernel_rfl
theorem cl39:callable Tryz.prog 39=true:=by kernel_rfl
theorem cl40:callable Tryz.prog 40=true:=by kernel_rfl
theorem cl41:callable Tryz.prog 41=true:=by kernel_rfl
theorem cl42:callable Tryz.prog 42=true:=by kernel_rfl
theorem cl43:callable Tryz.prog 43=true:=by kernel_rfl
theorem cl44:callable Tryz.prog 44=true:=by kernel_rfl
theorem cl45:callable Tryz.prog 45=true:=by kernel_rfl
theorem cl46:callable Tryz.prog 46=true:=by kernel_rfl
theorem cl47:callable Tryz.prog 47=true:=by kernel_rfl
theorem cl48:callable Tryz.prog 48=true:=by kernel_rfl
theorem cl49:callable Tryz.prog 49=true:=by kernel_rfl
theorem cl50:callable Tryz.prog 50=true:=by kernel_rfl
theorem cl52:callable Tryz.prog 52=true:=by kernel_rfl
theorem cl53:callable Tryz.prog 53=true:=by kernel_rfl
theorem cl54:callable Tryz.prog 54=true:=by kernel_rfl
theorem cl55:callable Tryz.prog 55=true:=by kernel_rfl
theorem cl56:callable Tryz.prog 56=true:=by kernel_rfl
theorem cl57:callable Tryz.prog 57=true:=by kernel_rfl
theorem cl58:callable Tryz.prog 58=true:=by kernel_rfl
theorem cl59:callable Tryz.prog 59=true:=by kernel_rfl
theorem cl60:callable Tryz.prog 60=true:=by kernel_rfl
theorem cl61:callable Tryz.prog 61=true:=by kernel_rfl
theorem cl62:callable Tryz.prog 62=true:=by kernel_rfl
theorem cl63:callable Tryz.prog 63=true:=by kernel_rfl
theorem cl64:callable Tryz.prog 64=true:=by kernel_rfl
theorem cl65:callable Tryz.prog 65=true:=by kernel_rfl
theorem cl66:callable Tryz.prog 66=true:=by kernel_rfl
theorem cl67:callable Tryz.prog 67=true:=by kernel_rfl
theorem cl68:callable Tryz.prog 68=true:=by kernel_rfl
theorem cl69:callable Tryz.prog 69=true:=by kernel_rfl
theorem cl70:callable Tryz.prog 70=true:=by kernel_rfl
theorem cl71:callable Tryz.prog 71=true:=by kernel_rfl
theorem cl72:callable Tryz.prog 72=true:=by kernel_rfl
theorem cl73:callable Tryz.prog 73=true:=by kernel_rfl
theorem cl74:callable Tryz.prog 74=true:=by kernel_rfl
theorem cl75:callable Tryz.prog 75=true:=by kernel_rfl
theorem cl76:callable Tryz.prog 76=true:=by kernel_rfl
theorem cl77:callable Tryz.prog 77=true:=by kernel_rfl
theorem cl78:callable Tryz.prog 78=true:=by kernel_rfl
theorem cl79:callable Tryz.prog 79=true:=by kernel_rfl
theorem cl80:callable Tryz.prog 80=true:=by kernel_rfl
theorem cl81:callable Tryz.prog 81=true:=by kernel_rfl
theorem cl82:callable Tryz.prog 82=true:=by kernel_rfl
theorem cl83:callable Tryz.prog 83=true:=by kernel_rfl
theorem cl84:callable Tryz.prog 84=true:=by kernel_rfl
theorem cl85:callable Tryz.prog 85=true:=by kernel_rfl
theorem cl86:callable Tryz.prog 86=true:=by kernel_rfl
theorem cl87:callable Tryz.prog 87=true:=by kernel_rfl
theorem cl88:callable Tryz.prog 88=true:=by kernel_rfl
theorem cl89:callable Tryz.prog 89=true:=by kernel_rfl
theorem cl90:callable Tryz.prog 90=true:=by kernel_rfl
theorem cl91:callable Tryz.prog 91=true:=by kernel_rfl
theorem cl92:callable Tryz.prog 92=true:=by kernel_rfl
theorem cl93:callable Tryz.prog 93=true:=by kernel_rfl
theorem cl94:callable Tryz.prog 94=true:=by kernel_rfl
theorem cl95:callable Tryz.prog 95=true:=by kernel_rfl
theorem cl96:callable Tryz.prog 96=true:=by kernel_rfl
theorem cl97:callable Tryz.prog 97=true:=by kernel_rfl
theorem cl98:callable Tryz.prog 98=true:=by kernel_rfl
theorem cl99:callable Tryz.prog 99=true:=by kernel_rfl
theorem cl100:callable Tryz.prog 100=true:=by kernel_rfl
theorem cl101:callable Tryz.prog 101=true:=by kernel_rfl
theorem cl102:callable Tryz.prog 102=true:=by kernel_rfl
theorem cl103:callable Tryz.prog 103=true:=by kernel_rfl
theorem cl104:callable Tryz.prog 104=true:=by kernel_rfl
theorem cl105:callable Tryz.prog 105=true:=by kernel_rfl
theorem cl106:callable Tryz.prog 106=true:=by kernel_rfl
theorem cl107:callable Tryz.prog 107=true:=by kernel_rfl
theorem cl108:callable Tryz.prog 108=true:=by kernel_rfl
theorem cl109:callable Tryz.prog 109=true:=by kernel_rfl
theorem cl110:callable Tryz.prog 110=true:=by kernel_rfl
theorem cl111:callable Tryz.prog 111=true:=by kernel_rfl
theorem cl112:callable Tryz.prog 112=true:=by kernel_rfl
theorem cl113:callable Tryz.prog 113=true:=by kernel_rfl
theorem cl114:callable Tryz.prog 114=true:=by kernel_rfl
theorem cl115:callable Tryz.prog 115=true:=by kernel_rfl
theorem cl116:callable Tryz.prog 116=true:=by kernel_rfl
theorem cl117:callable Tryz.prog 117=true:=by kernel_rfl
theorem cl118:callable Tryz.prog 118=true:=by kernel_rfl
theorem cl119:callable Tryz.prog 119=true:=by kernel_rfl
theorem cl120:callable Tryz.prog 120=true:=by kernel_rfl
theorem cl121:callable Tryz.prog 121=true:=by kernel_rfl
theorem cl122:callable Tryz.prog 122=true:=by kernel_rfl
theorem cl124:callable Tryz.prog 124=true:=by kernel_rfl
theorem cl125:callable Tryz.prog 125=true:=by kernel_rfl
theorem cl126:callable Tryz.prog 126=true:=by kernel_rfl
theorem cl127:callable Tryz.prog 127=true:=by kernel_rfl
theorem cl128:callable Tryz.prog 128=true:=by kernel_rfl
theorem cl129:callable Tryz.prog 129=true:=by kernel_rfl
theorem cl130:callable Tryz.prog 130=true:=by kernel_rfl
theorem cl131:callable Tryz.prog 131=true:=by kernel_rfl
theorem cl132:callable Tryz.prog 132=true:=by kernel_rfl
theorem cl133:callable Tryz.prog 133=true:=by kernel_rfl
theorem cl134:callable Tryz.prog 134=true:=by kernel_rfl
theorem cl135:callable Tryz.prog 135=true:=by kernel_rfl
theorem cl136:callable Tryz.prog 136=true:=by kernel_rfl
theorem cl137:callable Tryz.prog 137=true:=by kernel_rfl
theorem cl138:callable Tryz.prog 138=true:=by kernel_rfl
theorem cl139:callable Tryz.prog 139=true:=by kernel_rfl
theorem cl140:callable Tryz.prog 140=true:=by kernel_rfl
theorem cl141:callable Tryz.prog 141=true:=by kernel_rfl
theorem cl142:callable Tryz.prog 142=true:=by kernel_rfl
theorem cl143:callable Tryz.prog 143=true:=by kernel_rfl
theorem cl144:callable Tryz.prog 144=true:=by kernel_rfl
theorem cl145:callable Tryz.prog 145=true:=by kernel_rfl
theorem cl146:callable Tryz.prog 146=true:=by kernel_rfl
theorem cl147:callable Tryz.prog 147=true:=by kernel_rfl
theorem cl148:callable Tryz.prog 148=true:=by kernel_rfl
theorem cl149:callable Tryz.prog 149=true:=by kernel_rfl
theorem cl150:callable Tryz.prog 150=true:=by kernel_rfl
theorem cl151:callable Tryz.prog 151=true:=by kernel_rfl
theorem cl152:callable Tryz.prog 152=true:=by kernel_rfl
theorem cl153:callable Tryz.prog 153=true:=by kernel_rfl
theorem cl154:callable Tryz.prog 154=true:=by kernel_rfl
theorem cl157:callable Tryz.prog 157=true:=by kernel_rfl
theorem cl158:callable Tryz.prog 158=true:=by kernel_rfl
theorem cl159:callable Tryz.prog 159=true:=by kernel_rfl
theorem cl160:callable Tryz.prog 160=true:=by kernel_rfl
theorem cl161:callable Tryz.prog 161=true:=by kernel_rfl
theorem cl163:callable Tryz.prog 163=true:=by kernel_rfl
theorem cl164:callable Tryz.prog 164=true:=by kernel_rfl
theorem cl165:callable Tryz.prog 165=true:=by kernel_rfl
theorem cl166:callable Tryz.prog 166=true:=by kernel_rfl
theorem cl167:callable Tryz.prog 167=true:=by kernel_rfl
theorem cl168:callable Tryz.prog 168=true:=by kernel_rfl
theorem cl169:callable Tryz.prog 169=true:=by kernel_rfl
theorem cl170:callable Tryz.prog 170=true:=by kernel_rfl
theorem cl171:callable Tryz.prog 171=true:=by kernel_rfl
theorem cl172:callable Tryz.prog 172=true:=by kernel_rfl
theorem cl173:callable Tryz.prog 173=true:=by kernel_rfl
theorem cl174:callable Tryz.prog 174=true:=by kernel_rfl
theorem cl175:callable Tryz.prog 175=true:=by kernel_rfl
theorem cl176:callable Tryz.prog 176=true:=by kernel_rfl
theorem cl177:callable Tryz.prog 177=true:=by kernel_rfl
theorem cl178:callable Tryz.prog 178=true:=by kernel_rfl
theorem cl179:callable Tryz.prog 179=true:=by kernel_rfl
theorem cl180:callable Tryz.prog 180=true:=by kernel_rfl
theorem cl181:callable Tryz.prog 181=true:=by kernel_rfl
theorem cl182:callable Tryz.prog 182=true:=by kernel_rfl
theorem cl183:callable Tryz.prog 183=true:=by kernel_rfl
theorem cl184:callable Tryz.prog 184=true:=by kernel_rfl
theorem cl185:callable Tryz.prog 185=true:=by kernel_rfl
theorem cl186:callable Tryz.prog 186=true:=by kernel_rfl
theorem cl187:callable Tryz.prog 187=true:=by kernel_rfl
theorem cl193:callable Tryz.prog 193=true:=by kernel_rfl
theorem cl194:callable Tryz.prog 194=true:=by kernel_rfl
theorem cl195:callable Tryz.prog 195=true:=by kernel_rfl
theorem cl196:callable Tryz.prog 196=true:=by kernel_rfl
theorem cl201:callable Tryz.prog 201=true:=by kernel_rfl
theorem cl202:callable Tryz.prog 202=true:=by kernel_rfl
theorem cl203:callable Tryz.prog 203=true:=by kernel_rfl
theorem cl204:callable Tryz.prog 204=true:=by kernel_rfl
theorem cl205:callable Tryz.prog 205=true:=by kernel_rfl
theorem cl206:callable Tryz.prog 206=true:=by kernel_rfl
theorem cl207:callable Tryz.prog 207=true:=by kernel_rfl
theorem cl208:callable Tryz.prog 208=true:=by kernel_rfl
theorem cl209:callable Tryz.prog 209=true:=by kernel_rfl
theorem cl210:callable Tryz.prog 210=true:=by kernel_rfl
theorem cl211:callable Tryz.prog 211=true:=by kernel_rfl
theorem cl213:callable Tryz.prog 213=true:=by kernel_rfl
theorem cl214:callable Tryz.prog 214=true:=by kernel_rfl
theorem cl215:callable Tryz.prog 215=true:=by kernel_rfl
theorem cl216:callable Tryz.prog 216=true:=by kernel_rfl
theorem cl217:callable Tryz.prog 217=true:=by kernel_rfl
theorem cl218:callable Tryz.prog 218=true:=by kernel_rfl
theorem cl219:callable Tryz.prog 219=true:=by kernel_rfl
theorem cl220:callable Tryz.prog 220=true:=by kernel_rfl
theorem cl221:callable Tryz.prog 221=true:=by kernel_rfl
theorem cl222:callable Tryz.prog 222=true:=by kernel_rfl
theorem cl223:callable Tryz.prog 223=true:=by kernel_rfl
theorem cl224:callable Tryz.prog 224=true:=by kernel_rfl
theorem cl231:callable Tryz.prog 231=true:=by kernel_rfl
theorem cl234:callable Tryz.prog 234=true:=by kernel_rfl
theorem cl235:callable Tryz.prog 235=true:=by kernel_rfl
theorem cl246:callable Tryz.prog 246=true:=by kernel_rfl
theorem cl247:callable Tryz.prog 247=true:=by kernel_rfl
theorem cl248:callable Tryz.prog 248=true:=by kernel_rfl
theorem cl249:callable Tryz.prog 249=true:=by kernel_rfl
theorem cl250:callable Tryz.prog 250=true:=by kernel_rfl
theorem cl251:callable Tryz.prog 251=true:=by kernel_rfl
theorem cl252:callable Tryz.prog 252=true:=by kernel_rfl
theorem cl253:callable Tryz.prog 253=true:=by kernel_rfl
theorem cl254:callable Tryz.prog 254=true:=by kernel_rfl
theorem cl255:callable Tryz.prog 255=true:=by kernel_rfl
theorem cl256:callable Tryz.prog 256=true:=by kernel_rfl
theorem cl257:callable Tryz.prog 257=true:=by kernel_rfl
theorem cl258:callable Tryz.prog 258=true:=by kernel_rfl
theorem cl261:callable Tryz.prog 261=true:=by kernel_rfl
theorem cl262:callable Tryz.prog 262=true:=by kernel_rfl
theorem cl263:callable Tryz.prog 263=true:=by kernel_rfl
theorem cl264:callable Tryz.prog 264=true:=by kernel_rfl
theorem cl265:callable Tryz.prog 265=true:=by kernel_rfl
theorem cl274:callable Tryz.prog 274=true:=by kernel_rfl
theorem cl275:callable Tryz.prog 275=true:=by kernel_rfl
theorem cl276:callable Tryz.prog 276=true:=by kernel_rfl
theorem cl277:callable Tryz.prog 277=true:=by kernel_rfl
theorem cl278:callable Tryz.prog 278=true:=by kernel_rfl
theorem cl279:callable Tryz.prog 279=true:=by kernel_rfl
theorem cl280:callable Tryz.prog 280=true:=by kernel_rfl
theorem cl285:callable Tryz.prog 285=true:=by kernel_rfl
theorem cl287:callable Tryz.prog 287=true:=by kernel_rfl
theorem tz3:tzero Tryz.prog 3=some [.v (.int .i64 0)]:=by kernel_rfl
theorem tz23:tzero Tryz.prog 23=some [.v (.string ⟨#[]⟩),.v (.string ⟨#[]⟩),.v (.string ⟨#[]⟩),.v (.bool false),.v (.int .i64 0),.v (.int .i64 0),.v (.int .i64 0),.v (.bool false)]:=by kernel_rfl
theorem tz25:tzero Tryz.prog 25=some [.v (.string ⟨#[]⟩),.v (.string ⟨#[]⟩),.v (.string ⟨#[]⟩),.v (.string ⟨#[]⟩),.v (.string ⟨#[]⟩),.v (.int .i64 0),.v (.bool false),.v (.int .i64 0),.v (.int .i64 0),.v (.int .i64 0)]:=by kernel_rfl
theorem tz27:tzero Tryz.prog 27=some [.v (.string ⟨#[]⟩),.v (.string ⟨#[]⟩),.v (.int .i64 0),.v (.int .i64 0),.v (.int .i64 0),.v (.int .i64 0)]:=by kernel_rfl
theorem tz29:tzero Tryz.prog 29=some [.v (.int .i64 0),.v (.int .i64 0),.v (.string ⟨#[]⟩),.v (.string ⟨#[]⟩),.v (.string ⟨#[]⟩),.v (.bool false),.v (.int .i64 0),.v (.int .i64 0),.v (.int .i64 0),.v (.bool false),.v (.string ⟨#[]⟩),.v (.string ⟨#[]⟩),.v (.string ⟨#[]⟩),.v (.string ⟨#[]⟩),.v (.string ⟨#[]⟩),.v (.string ⟨#[]⟩),.v (.int .i64 0),.v (.bool false),.v (.int .i64 0),.v (.int .i64 0),.v (.int .i64 0),.v (.int .i64 0),.v (.bool false),.v (.string ⟨#[]⟩),.v (.string ⟨#[]⟩),.v (.int .i64 0),.v (.int .i64 0),.v (.int .i64 0),.v (.int .i64 0)]:=by kernel_rfl
theorem tz46:tzero Tryz.prog 46=some [.nilS,.nilS]:=by kernel_rfl
theorem tz49:tzero Tryz.prog 49=some [.nilS,.nilS,.nilS,.nilS]:=by kernel_rfl
theorem tz51:tzero Tryz.prog 51=some [.nilS,.nilS,.nilS,.nilS,.v (.int .i64 0),.v (.int .i64 0)]:=by kernel_rfl
theorem tz55:tzero Tryz.prog 55=some [.nilS,.nilS,.v (.bool false),.v (.int .i64 0),.v (.int .i64 0)]:=by kernel_rfl
theorem tz57:tzero Tryz.prog 57=some [.v (.int .i64 0),.v (.int .i64 0),.nilS,.nilS,.nilS,.nilS,.v (.int .i64 0),.v (.int .i64 0),.nilS,.nilS,.v (.bool false),.v (.int .i64 0),.v (.int .i64 0)]:=by kernel_rfl
theorem tz68:tzero Tryz.prog 68=some [.v (.int .i64 0),.v (.int .i64 0)]:=by kernel_rfl
theorem tz78:tzero Tryz.prog 78=some [.v (.int .i64 0),.v (.int .i64 0),.v (.int .i64 0),.v (.bool false),.v (.int .i64 0),.v (.int .i64 0),.v (.bool false),.v (.string ⟨#[]⟩),.v (.string ⟨#[]⟩),.v (.string ⟨#[]⟩),.v (.string ⟨#[]⟩),.v (.string ⟨#[]⟩),.v (.string ⟨#[]⟩),.v (.int .i64 0),.v (.bool false),.v (.int .i64 0),.v (.int .i64 0),.v (.int .i64 0)]:=by kernel_rfl
theorem tz83:tzero Tryz.prog 83=some [.v (.int .i64 0),.v (.string ⟨#[]⟩)]:=by kernel_rfl
theorem tz105:tzero Tryz.prog 105=some [.nilS,.nilS,.nilS,.v (.int .i64 0),.v (.int .i64 0)]:=by kernel_rfl
theorem tz107:tzero Tryz.prog 107=some [.nilS,.nilS,.nilS,.v (.int .i64 0),.v (.int .i64 0),.nilS,.v (.int .i64 0),.v (.bool false)]:=by kernel_rfl
theorem tz128:tzero Tryz.prog 128=some [.v (.string ⟨#[]⟩),.v (.string ⟨#[]⟩),.v (.string ⟨#[]⟩),.v (.string ⟨#[]⟩),.v (.string ⟨#[]⟩),.v (.string ⟨#[]⟩),.v (.string ⟨#[]⟩)]:=by kernel_rfl
theorem tz146:tzero Tryz.prog 146=some [.v (.string ⟨#[]⟩),.v (.string ⟨#[]⟩),.v (.string ⟨#[]⟩),.v (.string ⟨#[]⟩),.v (.bool false),.v (.int .i64 0),.v (.int .i64 0),.v (.int .i64 0),.v (.bool false)]:=by kernel_rfl
theorem tz165:tzero Tryz.prog 165=some [.v (.int .i64 0),.nilS,.nilS,.v (.int .i64 0)]:=by kernel_rfl
theorem tz223:tzero Tryz.prog 223=some [.nilS]:=by kernel_rfl
theorem tz238:tzero Tryz.prog 238=some [.v (.int .i64 0),.v (.int .i64 0)]:=by kernel_rfl
theorem tz259:tzero Tryz.prog 259=some [.v (.int .u32 0),.v (.int .i32 0),.v (.int .u32 0),.v (.int .u32 0),.v (.int .u32 0),.v (.int .u32 0),.v (.int .u32 0),.v (.int .u32 0),.v (.int .u32 0),.v (.int .u32 0),.v (.int .u32 0),.v (.int .u32 0),.v (.int .u32 0),.v (.int .u32 0),.v (.int .u32 0),.v (.int .u32 0),.v (.int .u32 0),.v (.int .u32 0),.v (.int .u32 0),.v (.int .u32 0),.v (.int .u32 0),.v (.int .u32 0),.v (.int .u32 0),.v (.int .u32 0),.v (.int .u32 0),.v (.int .u32 0),.v (.int .u32 0),.v (.int .u32 0),.v (.int .u32 0),.v (.int .u32 0),.v (.int .u32 0),.v (.int .u32 0),.v (.int .u32 0),.v (.int .u32 0),.v (.int .u32 0),.v (.int .u32 0),.v (.int .u32 0),.v (.int .u32 0),.v (.int .u32 0),.v (.int .u32 0),.v (.int .u32 0),.v (.int .u32 0),.v (.int .u32 0),.v (.int .u32 0),.v (.int .u32 0),.v (.int .u32 0),.v (.int .u32 0),.v (.int .u32 0),.v (.int .u32 0),.v (.int .u32 0),.v (.int .u32 0),.v (.int .u32 0),.v (.int .u32 0),.v (.int .u32 0),.v (.int .u32 0),.v (.int .u32 0),.v (.int .u32 0),.v (.int .u32 0),.v (.int .u32 0),.v (.int .u32 0),.v (.int .u32 0),.v (.int .u32 0),.v (.int .u32 0),.v (.int .u32 0),.v (.int .u32 0),.v (.int .u32 0),.v (.int .u32 0),.v (.int .u32 0),.v (.int .u32 0),.v (.int .u32 0),.v (.int .u32 0),.v (.int .u32 0),.v (.int .u32 0),.v (.int .u32 0),.v (.int .u32 0),.v (.int .u32 0),.v (.int .u32 0),.v (.int .u32 0),.v (.int .u32 0),.v (.int .u32 0),.v (.int .u32 0),.v (.int .u32 0),.v (.int .u32 0),.v (.int .u32 0),.v (.int .u32 0),.v (.int .u32 0),.v (.int .u32 0),.v (.int .u32 0),.v (.int .u32 0),.v (.int .u32 0),.v (.int .u32 0),.v (.int .u32 0),.v (.int .u32 0),.v (.int .u32 0),.v (.int .u32 0),.v (.int .u32 0),.v (.int .u32 0),.v (.int .u32 0),.v (.int .u32 0),.v (.int .u32 0),.v (.int .u32 0),.v (.int .u32 0),.v (.int .u32 0),.v (.int .u32 0),.v (.int .u32 0),.v (.int .u32 0),.v (.int .u32 0),.v (.int .u32 0),.v (.int .u32 0),.v (.int .u32 0),.v (.int .u32 0),.v (.int .u32 0),.v (.int .u32 0),.v (.int .u32 0),.v (.int .u32 0),.v (.int .u32 0),.v (.int .u32 0),.v (.int .u32 0),.v (.int .u32 0),.v (.int .u32 0),.v (.int .u32 0),.v (.int .u32 0),.v (.int .u32 0),.v (.int .u32 0),.v (.int .u32 0),.v (.int .u32 0),.v (.int .u32 0),.v (.int .u32 0),.v (.int .u32 0),.v (.int .u32 0),.v (.int .u32 0),.v (.int .u32 0),.v (.int .u32 0),.v (.int .u32 0),.v (.int .u32 0),.v (.int .u32 0),.v (.int .u32 0),.v (.int .u32 0),.v (.int .u32 0),.v (.int .u32 0),.v (.int .u32 0),.v (.int .u32 0),.v (.int .u32 0),.v (.int .u32 0),.v (.int .u32 0),.v (.int .u32 0),.v (.int .u32 0),.v (.int .u32 0),.v (.int .u32 0),.v (.int .u32 0),.v (.int .u32 0),.v (.int .u32 0),.v (.int .u32 0),.v (.int .u32 0),.v (.int .u32 0),.v (.int .u32 0),.v (.int .u32 0),.v (.int .u32 0),.v (.int .u32 0),.v (.int .u32 0),.v (.int .u32 0),.v (.int .u32 0),.v (.int .u32 0),.v (.int .u32 0),.v (.int .u32 0),.v (.int .u32 0),.v (.int .u32 0),.v (.int .u32 0),.v (.int .u32 0),.v (.int .u32 0),.v (.int .u32 0),.v (.int .u32 0),.v (.int .u32 0),.v (.int .u32 0),.v (.int .u32 0),.v (.int .u32 0),.v (.int .u32 0),.v (.int .u32 0),.v (.int .u32 0),.v (.int .u32 0),.v (.int .u32 0),.v (.int .u32 0),.v (.int .u32 0),.v (.int .u32 0),.v (.int .u32 0),.v (.int .u32 0),.v (.int .u32 0),.v (.int .u32 0),.v (.int .u32 0),.v (.int .u32 0),.v (.int .u32 0),.v (.int .u32 0),.v (.int .u32 0),.v (.int .u32 0),.v (.int .u32 0),.v (.int .u32 0),.v (.int .u32 0),.v (.int .u32 0),.v (.int .u32 0),.v (.int .u32 0),.v (.int .u32 0),.v (.int .u32 0),.v (.int .u32 0),.v (.int .u32 0),.v (.int .u32 0),.v (.int .u32 0),.v (.int .u32 0),.v (.int .u32 0),.v (.int .u32 0),.v (.int .u32 0),.v (.int .u32 0),.v (.int .u32 0),.v (.int .u32 0),.v (.int .u32 0),.v (.int .u32 0),.v (.int .u32 0),.v (.int .u32 0),.v (.int .u32 0),.v (.int .u32 0),.v (.int .u32 0),.v (.int .u32 0),.v (.int .u32 0),.v (.int .u32 0),.v (.int .u32 0),.v (.int .u32 0),.v (.int .u32 0),.v (.int .u32 0),.v (.int .u32 0),.v (.int .u32 0),.v (.int .u32 0),.v (.int .u32 0),.v (.int .u32 0),.v (.int .u32 0),.v (.int .u32 0),.v (.int .u32 0),.v (.int .u32 0),.v (.int .u32 0),.v (.int .u32 0),.v (.int .u32 0),.v (.int .u32 0),.v (.int .u32 0),.v (.int .u32 0),.v (.int .u32 0),.v (.int .u32 0),.v (.int .u32 0),.v (.int .u32 0),.v (.int .u32 0),.v (.int .u32 0),.v (.int .u32 0),.v (.int .u32 0),.v (.int .u32 0),.v (.int .u32 0),.v (.int .u32 0),.v (.int .u32 0),.v (.int .u32 0),.v (.int .u32 0),.v (.int .u32 0),.v (.int .u32 0),.v (.int .u32 0)]:=by kernel_rfl
theorem tz278:tzero Tryz.prog 278=some [.v (.int .i64 0),.v (.bool false),.v (.bool false),.v (.int .i64 0)]:=by kernel_rfl
theorem tz308:tzero Tryz.prog 308=some [.v (.bool false),.v (.bool false),.v (.bool false),.v (.bool false),.v (.bool false)]:=by kernel_rfl
theorem tz321:tzero Tryz.prog 321=some [.v (.int .u64 0)]:=by kernel_rfl
theorem bs23:buildS Tryz.prog 23=some [(0,1),(1,1),(2,1),(3,1),(4,1),(5,1),(6,1),(7,1)]:=by kernel_rfl
theorem bs25:buildS Tryz.prog 25=some [(0,1),(1,1),(2,1),(3,1),(4,1),(5,1),(6,1),(7,1),(8,1),(9,1)]:=by kernel_rfl
theorem bs27:buildS Tryz.prog 27=some [(0,1),(1,1),(2,1),(3,1),(4,1),(5,1)]:=by kernel_rfl
theorem bs29:buildS Tryz.prog 29=some [(0,1),(1,1),(2,8),(10,1),(11,10),(21,1),(22,1),(23,6)]:=by kernel_rfl
theorem bs46:buildS Tryz.prog 46=some [(0,1),(1,1)]:=by kernel_rfl
theorem bs49:buildS Tryz.prog 49=some [(0,4)]:=by kernel_rfl
theorem bs51:buildS Tryz.prog 51=some [(0,4),(4,1),(5,1)]:=by kernel_rfl
theorem bs55:buildS Tryz.prog 55=some [(0,1),(1,1),(2,1),(3,1),(4,1)]:=by kernel_rfl
theorem bs57:buildS Tryz.prog 57=some [(0,1),(1,1),(2,6),(8,5)]:=by kernel_rfl
theorem bs68:buildS Tryz.prog 68=none:=by kernel_rfl
theorem ba68:buildA Tryz.prog 68=some 1:=by kernel_rfl
theorem bs78:buildS Tryz.prog 78=some [(0,1),(1,1),(2,1),(3,1),(4,1),(5,1),(6,1),(7,1),(8,10)]:=by kernel_rfl
theorem bs83:buildS Tryz.prog 83=some [(0,1),(1,1)]:=by kernel_rfl
theorem bs128:buildS Tryz.prog 128=none:=by kernel_rfl
theorem ba128:buildA Tryz.prog 128=some 1:=by kernel_rfl
theorem bs146:buildS Tryz.prog 146=some [(0,1),(1,1),(2,1),(3,1),(4,1),(5,1),(6,1),(7,1),(8,1)]:=by kernel_rfl
theorem bs165:buildS Tryz.prog 165=some [(0,1),(1,1),(2,1),(3,1)]:=by kernel_rfl
theorem bs238:buildS Tryz.prog 238=some [(0,1),(1,1)]:=by kernel_rfl
theorem bs278:buildS Tryz.prog 278=some [(0,1),(1,1),(2,1),(3,1)]:=by kernel_rfl
theorem ud2:Tryz.prog.underlying 2=some (.int (Go.IntKind.i64)):=by kernel_rfl
theorem ud3:Tryz.prog.underlying 3=some (.int (Go.IntKind.i64)):=by kernel_rfl
theorem ud4:Tryz.prog.underlying 4=some (.bool):=by kernel_rfl
theorem ud5:Tryz.prog.underlying 5=some (.int (Go.IntKind.u8)):=by kernel_rfl
theorem ud9:Tryz.prog.underlying 9=some (.string):=by kernel_rfl
theorem ud21:Tryz.prog.underlying 21=some (.int (Go.IntKind.i32)):=by kernel_rfl
theorem ud30:Tryz.prog.underlying 30=some (.slice 5):=by kernel_rfl
theorem ud33:Tryz.prog.underlying 33=some (.int (Go.IntKind.i64)):=by kernel_rfl
theorem ud42:Tryz.prog.underlying 42=some (.slice 29):=by kernel_rfl
theorem ud43:Tryz.prog.underlying 43=some (.slice 4):=by kernel_rfl
theorem ud44:Tryz.prog.underlying 44=some (.int (Go.IntKind.u16)):=by kernel_rfl
theorem ud47:Tryz.prog.underlying 47=some (.array 2 46):=by kernel_rfl
theorem ud52:Tryz.prog.underlying 52=some (.slice 107):=by kernel_rfl
theorem ud53:Tryz.prog.underlying 53=some (.slice 27):=by kernel_rfl
theorem ud60:Tryz.prog.underlying 60=some (.slice 55):=by kernel_rfl
theorem ud68:Tryz.prog.underlying 68=some (.array 2 3):=by kernel_rfl
theorem ud80:Tryz.prog.underlying 80=some (.slice 83):=by kernel_rfl
theorem ud101:Tryz.prog.underlying 101=some (.slice 23):=by kernel_rfl
theorem ud102:Tryz.prog.underlying 102=some (.slice 146):=by kernel_rfl
theorem ud103:Tryz.prog.underlying 103=some (.slice 9):=by kernel_rfl
theorem ud110:Tryz.prog.underlying 110=some (.slice 30):=by kernel_rfl
theorem ud128:Tryz.prog.underlying 128=some (.array 7 9):=by kernel_rfl
theorem ud178:Tryz.prog.underlying 178=some (.slice 2):=by kernel_rfl
theorem ud202:Tryz.prog.underlying 202=some (.int (Go.IntKind.u64)):=by kernel_rfl
theorem ud203:Tryz.prog.underlying 203=some (.int (Go.IntKind.u32)):=by kernel_rfl
theorem ud208:Tryz.prog.underlying 208=some (.int (Go.IntKind.u64)):=by kernel_rfl
theorem ud223:Tryz.prog.underlying 223=some (.slice 83):=by kernel_rfl
theorem ud257:Tryz.prog.underlying 257=some (.array 256 203):=by kernel_rfl
theorem ud291:Tryz.prog.underlying 291=some (.int (Go.IntKind.i64)):=by kernel_rfl
theorem ud308:Tryz.prog.underlying 308=some (.array 5 4):=by kernel_rfl
theorem ud321:Tryz.prog.underlying 321=some (.int (Go.IntKind.u64)):=by kernel_rfl
attribute [go_sem] ld2 ld3 ld4 ld5 ld9 ld23 ld25 ld27 ld29 ld30 ld47 ld49 ld51 ld52 ld53 ld55 ld57 ld68 ld78 ld80 ld83 ld101 ld102 ld103 ld105 ld107 ld110 ld146 ld165 ld203 ld223 ld238 ld321 fi23_0 fi23_1 fi23_2 fi23_3 fi23_4 fi23_5 fi23_6 fi23_7 fi25_0 fi25_1 fi25_2 fi25_3 fi25_4 fi25_5 fi25_6 fi25_7 fi25_8 fi25_9 fi27_0 fi27_1 fi27_2 fi27_3 fi27_4 fi27_5 fi29_0 fi29_1 fi29_2 fi29_3 fi29_4 fi29_5 fi29_6 fi29_7 fi46_0 fi46_1 fi49_0 fi51_0 fi51_1 fi51_2 fi55_0 fi55_1 fi55_2 fi55_3 fi55_4 fi57_0 fi57_1 fi57_2 fi57_3 fi78_0 fi78_1 fi78_2 fi78_3 fi78_4 fi78_5 fi78_6 fi78_7 fi78_8 fi83_0 fi83_1 fi105_0 fi105_1 fi105_2 fi105_3 fi105_4 fi107_0 fi107_1 fi107_2 fi107_3 fi146_0 fi146_1 fi146_2 fi146_3 fi146_4 fi146_5 fi146_6 fi146_7 fi146_8 fi165_0 fi165_1 fi165_2 fi165_3 fi238_0 fi238_1 fi259_0 fi259_1 fi278_0 fi278_1 fi278_2 fi278_3 ix30 ix42 ix43 ix47 ix52 ix53 ix60 ix68 ix80 ix101 ix102 ix103 ix110 ix128 ix178 ix257 ix308 ap30 ap52 ap53 ap60 ap80 ap101 ap102 ap103 ap110 ap178 ap223 sz2 sz3 sz4 sz5 sz9 sz23 sz25 sz27 sz29 sz30 sz46 sz49 sz51 sz52 sz53 sz55 sz57 sz68 sz78 sz83 sz101 sz102 sz103 sz105 sz107 sz128 sz146 sz165 sz203 sz223 sz238 sz259 sz278 sz308 sz321 sr9 sr30 sr52 sr53 sr60 sr80 sr101 sr102 sr103 sr110 sr223 fk23 fk25 fk27 fk29 fk78 fk146 cc9 cl7 cl8 cl9 cl10 cl11 cl12 cl13 cl14 cl15 cl16 cl17 cl18 cl19 cl20 cl21 cl22 cl23 cl24 cl25 cl26 cl27 cl28 cl29 cl30 cl31 cl32 cl33 cl34 cl35 cl36 cl37 cl38 cl39 cl40 cl41 cl42 cl43 cl44 cl45 cl46 cl47 cl48 cl49 cl50 cl52 cl53 cl54 cl55 cl56 cl57 cl58 cl59 cl60 cl61 cl62 cl63 cl64 cl65 cl66 cl67 cl68 cl69 cl70 cl71 cl72 cl73 cl74 cl75 cl76 cl77 cl78 cl79 cl80 cl81 cl82 cl83 cl84 cl85 cl86 cl87 cl88 cl89 cl90 cl91 cl92 cl93 cl94 cl95 cl96 cl97 cl98 cl99 cl100 cl101 cl102 cl103 cl104 cl105 cl106 cl107 cl108 cl109 cl110 cl111 cl112 cl113 cl114 cl115 cl116 cl117 cl118 cl119 cl120 cl121 cl122 cl124 cl125 cl126 cl127 cl128 cl129 cl130 cl131 cl132 cl133 cl134 cl135 cl136 cl137 cl138 cl139 cl140 cl141 cl142 cl143 cl144 cl145 cl146 cl147 cl148 cl149 cl150 cl151 cl152 cl153 cl154 cl157 cl158 cl159 cl160 cl161 cl163 cl164 cl165 cl166 cl167 cl168 cl169 cl170 cl171 cl172 cl173 cl174 cl175 cl176 cl177 cl178 cl179 cl180 cl181 cl182 cl183 cl184 cl185 cl186 cl187 cl193 cl194 cl195 cl196 cl201 cl202 cl203 cl204 cl205 cl206 cl207 cl208 cl209 cl210 cl211 cl213 cl214 cl215 cl216 cl217 cl218 cl219 cl220 cl221 cl222 cl223 cl224 cl231 cl234 cl235 cl246 cl247 cl248 cl249 cl250 cl251 cl252 cl253 cl254 cl255 cl256 cl257 cl258 cl261 cl262 cl263 cl264 cl265 cl274 cl275 cl276 cl277 cl278 cl279 cl280 cl285 cl287 tz3 tz23 tz25 tz27 tz29 tz46 tz49 tz51 tz55 tz57 tz68 tz78 tz83 tz105 tz107 tz128 tz146 tz165 tz223 tz238 tz259 tz278 tz308 tz321 bs23 bs25 bs27 bs29 bs46 bs49 bs51 bs55 bs57 bs68 ba68 bs78 bs83 bs128 ba128 bs146 bs165 bs238 bs278 ud2 ud3 ud4 ud5 ud9 ud21 ud30 ud33 ud42 ud43 ud44 ud47 ud52 ud53 ud60 ud68 ud80 ud101 ud102 ud103 ud110 ud128 ud178 ud202 ud203 ud208 ud223 ud257 ud291 ud308 ud321
end Go.Proofs.YthoonfpkfdjhiaaGreatDoor
end
section
namespace Go.Fld
open Go
abbrev Bs:=List UInt8
def isDig(c:UInt8):Bool:=decide (48≤c.toNat)&&decide (c.toNat≤57)
def decVal(acc:Nat)(l:Bs):Nat:=l.foldl (fun a c=>a*10+(c.toNat-48)) acc
theorem decVal_nil(a:Nat):decVal a []=a:=by unfold decVal;rw[List.foldl_nil]
theorem decVal_cons(a:Nat)(c:UInt8)(l:Bs):decVal a (c::l)=decVal (a*10+(c.toNat-48)) l:=by unfold decVal;rw[List.foldl_cons]
attribute [irreducible] decVal
def numOK(n:Int):Bool:=decide (-4611686018427387904≤n)&&decide (n≤4611686018427387904)
def showF(n:Int):Bs:=if numOK n=true then Lib.itoa n else[]
def signed:Bs→Bs×Bool
 |45::r=>(r,true)
 |l=>(l,false)
def parseF(l:Bs):Int×Int:=
 if 20<l.length then(0,4)
 else if(signed l).1=[]∨((signed l).1.head?=some 48∧1<l.length) then(0,3)
 else if(signed l).1.all isDig=false then(0,3)
 else if 4611686018427387904<decVal 0 (signed l).1 then(0,9)
 else(if(signed l).2=true then -((decVal 0 (signed l).1:Nat):Int) else((decVal 0 (signed l).1:Nat):Int),0)
theorem decVal_append(l:Bs):∀(a:Nat) (m:Bs),decVal a (l++m)=decVal (decVal a l) m:=by
 induction l with
 |nil=>intro a m;rw[List.nil_append,decVal_nil]
 |cons c l ih=>intro a m;rw[List.cons_append,decVal_cons,decVal_cons,ih]
theorem decVal_acc(l:Bs):∀(a:Nat),decVal a l=a*10^l.length+decVal 0 l:=by
 induction l with
 |nil=>intro a;simp[decVal_nil]
 |cons c l ih=>
  intro a
  simp only[decVal_cons,List.length_cons]
  rw[ih (a*10+_),ih (0*10+_),Nat.pow_succ]
  generalize 10^l.length=q
  generalize c.toNat-48=z
  rw[Nat.add_mul,Nat.add_mul,Nat.mul_assoc,Nat.mul_comm 10 q]
  omega
theorem decVal_le(a:Nat)(l:Bs):a≤decVal a l:=by
 rw[decVal_acc]
 have h1:1≤10^l.length:=Nat.one_le_pow _ _ (by decide)
 generalize 10^l.length=q at *
 have:=Nat.mul_le_mul_left a h1
 generalize a*q=z at *
 omega
theorem decVal_lead{c:UInt8}{l:Bs}(h:isDig c=true)(h0:c≠48):10^l.length≤decVal 0 (c::l):=by
 simp only[isDig,Bool.and_eq_true,decide_eq_true_eq] at h
 simp only[decVal_cons,Nat.zero_mul,Nat.zero_add]
 rw[decVal_acc]
 have h1:1≤c.toNat-48:=by
  have:c.toNat≠48:=fun e=>h0 (UInt8.toNat_inj.1 (by simpa using e))
  omega
 have:=Nat.mul_le_mul_right (10^l.length) h1
 generalize 10^l.length=q at *
 generalize (c.toNat-48)*q=z at *
 omega
theorem digOf{u:Nat}(h:u<10):isDig (UInt8.ofNat (48+u))=true∧(UInt8.ofNat (48+u)).toNat-48=u:=by
 have:(UInt8.ofNat (48+u)).toNat=48+u:=by simp;omega
 simp only[isDig,this,Bool.and_eq_true,decide_eq_true_eq]
 omega
theorem ofDig{c:UInt8}(h:isDig c=true):UInt8.ofNat (48+(c.toNat-48))=c:=by
 simp only[isDig,Bool.and_eq_true,decide_eq_true_eq] at h
 apply UInt8.toNat_inj.1
 simp;omega
theorem decDigits_dig(u:Nat):(Lib.decDigits u).all isDig=true:=by
 induction u using Nat.strongRecOn with
 |_ u ih=>
  rw[Lib.decDigits]
  split
  ·rename_i h;simp only[List.all_cons,List.all_nil,Bool.and_true];exact(digOf h).1
  ·rename_i h
   simp only[List.all_append,List.all_cons,List.all_nil,Bool.and_true,ih (u/10) (by omega),Bool.true_and]
   exact(digOf (Nat.mod_lt u (by decide:0<10))).1
theorem decDigits_val(u:Nat):decVal 0 (Lib.decDigits u)=u:=by
 induction u using Nat.strongRecOn with
 |_ u ih=>
  rw[Lib.decDigits]
  split
  ·rename_i h;simp only[decVal_cons,decVal_nil];rw[(digOf h).2];omega
  ·rename_i h
   rw[decVal_append,ih (u/10) (by omega)]
   simp only[decVal_cons,decVal_nil]
   rw[(digOf (Nat.mod_lt u (by decide:0<10))).2]
   omega
theorem decDigits_ne(u:Nat):Lib.decDigits u≠[]:=by
 rw[Lib.decDigits];split<;>simp
theorem decDigits_head(u:Nat)(h:u≠0):(Lib.decDigits u).head?≠some 48:=by
 induction u using Nat.strongRecOn with
 |_ u ih=>
  rw[Lib.decDigits]
  split
  ·rename_i h1
   simp only[List.head?_cons,ne_eq,Option.some.injEq]
   intro e
   have:=(digOf h1).2
   rw[e] at this
   simp at this;omega
  ·rename_i h1
   have h2:=decDigits_ne (u/10)
   rw[List.head?_append]
   cases hh:(Lib.decDigits (u/10)).head? with
   |none=>exact absurd (List.head?_eq_none_iff.1 hh) h2
   |some x=>simp only[Option.some_or];rw[←hh];exact ih (u/10) (by omega) (by omega)
theorem decDigits_of:∀(n:Nat) (l:Bs),l.length=n→l.all isDig=true→l≠[]→(l.head?=some 48→l.length=1)→Lib.decDigits (decVal 0 l)=l:=by
 intro n
 induction n with
 |zero=>intro l hl _ hn;exact absurd (List.eq_nil_of_length_eq_zero hl) hn
 |succ n ih=>
  intro l hl hd hn h0
  obtain⟨m,c,rfl⟩:∃m c,l=m++[c]:=⟨l.dropLast,l.getLast hn,(List.dropLast_concat_getLast hn).symm⟩
  simp only[List.all_append,List.all_cons,List.all_nil,Bool.and_true,Bool.and_eq_true] at hd
  have hc:=hd.2
  have hc':c.toNat-48<10:=by simp only[isDig,Bool.and_eq_true,decide_eq_true_eq] at hc;omega
  rw[decVal_append]
  simp only[decVal_cons,decVal_nil]
  cases m with
  |nil=>
   simp only[decVal_nil,List.nil_append]
   rw[Lib.decDigits_one (by omega)]
   simp only[Nat.zero_mul,Nat.zero_add]
   rw[ofDig hc]
  |cons d m=>
   simp only[List.length_append,List.length_cons,List.length_nil] at hl
   have hd0:d≠48:=by
    intro e;subst e
    have:=h0 (by simp);simp at this
   have h1:=ih (d::m) (by simpa using hl) hd.1 (by simp) (by intro e;simp at e;exact absurd e hd0)
   have h2:=decVal_lead (l:=m) (by simpa using(by simpa using hd.1:_∧_).1:isDig d=true) hd0
   have h3:1≤decVal 0 (d::m):=Nat.le_trans (Nat.one_le_pow _ _ (by decide)) h2
   rw[Lib.decDigits,dif_neg (by omega)]
   have e1:(decVal 0 (d::m)*10+(c.toNat-48))/10=decVal 0 (d::m):=by omega
   have e2:(decVal 0 (d::m)*10+(c.toNat-48))%10=c.toNat-48:=by omega
   rw[e1,e2,h1,ofDig hc]
theorem dec_len{u k:Nat}(h:u<10^k)(hk:0<k):(Lib.decDigits u).length≤k:=by
 rw[Lib.decDigits_length]
 induction k generalizing u with
 |zero=>omega
 |succ k ih=>
  by_cases hu:u<10
  ·rw[Lib.nDigits_small hu];omega
  ·rw[Lib.nDigits_big hu]
   cases k with
   |zero=>simp at h;omega
   |succ k=>have:=ih (u:=u/10) (by rw[Nat.pow_succ] at h;omega) (by omega);omega
theorem signed_dec(u:Nat):signed (Lib.decDigits u)=(Lib.decDigits u,false):=by
 have h:=decDigits_dig u
 unfold signed
 split
 ·rename_i r h';rw[h'] at h;simp[isDig] at h
 ·rfl
theorem parse_show{n:Int}(h:numOK n=true):parseF (showF n)=(n,0):=by
 have hh:=h
 simp only[numOK,Bool.and_eq_true,decide_eq_true_eq] at hh
 rw[showF,if_pos h,Lib.itoa]
 by_cases hn:n<0
 ·rw[if_pos hn]
  have h1:signed (45::Lib.decDigits n.natAbs)=(Lib.decDigits n.natAbs,true):=rfl
  have hl:=dec_len (u:=n.natAbs) (k:=19) (by omega) (by omega)
  unfold parseF
  rw[h1]
  simp only[decDigits_val,decDigits_dig]
  rw[if_neg (by simp;omega),if_neg,if_neg (by simp),if_neg (by omega)]
  ·simp;omega
  ·rintro(e|⟨e,_⟩)
   ·exact decDigits_ne _ e
   ·exact decDigits_head _ (by omega) e
 ·rw[if_neg hn]
  have hl:=dec_len (u:=n.toNat) (k:=19) (by omega) (by omega)
  unfold parseF
  rw[signed_dec]
  simp only[decDigits_val,decDigits_dig]
  rw[if_neg (by omega),if_neg,if_neg (by simp),if_neg (by omega)]
  ·simp;omega
  ·rintro(e|⟨e,e2⟩)
   ·exact decDigits_ne _ e
   ·by_cases h0:n.toNat=0
    ·rw[h0] at e2;simp[Lib.decDigits] at e2
    ·exact decDigits_head _ h0 e
theorem show_parse{l:Bs}{n:Int}(h:parseF l=(n,0)):numOK n=true∧showF n=l:=by
 unfold parseF at h
 split at h
 ·simp at h
 rename_i hlen
 split at h
 ·simp at h
 rename_i hne
 split at h
 ·simp at h
 rename_i hd
 split at h
 ·simp at h
 rename_i hv
 replace hd:(signed l).1.all isDig=true:=by simpa using hd
 replace hne:(signed l).1≠[]∧((signed l).1.head?=some 48→l.length≤1):=by
  constructor
  ·intro e;exact hne (.inl e)
  ·intro e;apply Nat.le_of_not_lt;intro h';exact hne (.inr ⟨e,h'⟩)
 simp only[Prod.mk.injEq,and_true] at h
 generalize hs:signed l=s at *
 obtain⟨ds,b⟩:=s
 simp only at h hd hne hv
 cases b with
 |true=>
  simp only[if_true] at h
  have hl:l=45::ds:=by
   unfold signed at hs;split at hs
   ·simp only[Prod.mk.injEq,and_true] at hs;rw[hs]
   ·simp at hs
  subst hl
  have h0:ds.head?≠some 48:=fun e=>by
   have h1:=hne.2 e
   cases ds with
   |nil=>simp at e
   |cons=>simp at h1
  have h2:=decDigits_of _ ds rfl hd hne.1 (fun e=>absurd e h0)
  have h3:decVal 0 ds≠0:=by
   intro e
   rw[e] at h2
   rw[←h2] at h0
   simp[Lib.decDigits] at h0
  have hok:numOK n=true:=by simp only[numOK,Bool.and_eq_true,decide_eq_true_eq];omega
  refine⟨hok,?_⟩
  rw[showF,if_pos hok,Lib.itoa,if_pos (by omega)]
  have:n.natAbs=decVal 0 ds:=by omega
  rw[this,h2]
 |false=>
  simp only[Bool.false_eq_true,if_false] at h
  have hl:ds=l:=by
   unfold signed at hs;split at hs
   ·simp at hs
   ·simp only[Prod.mk.injEq,and_true] at hs;exact hs.symm
  subst hl
  have h2:=decDigits_of _ ds rfl hd hne.1 (fun e=>by
   have h1:=hne.2 e
   cases ds with
   |nil=>simp at e
   |cons=>simp at h1 ⊢;omega)
  have hok:numOK n=true:=by simp only[numOK,Bool.and_eq_true,decide_eq_true_eq];omega
  refine⟨hok,?_⟩
  rw[showF,if_pos hok,Lib.itoa,if_neg (by omega)]
  have:n.toNat=decVal 0 ds:=by omega
  rw[this,h2]
def cutB(c:UInt8):Bs→Option (Bs×Bs)
 |[]=>none
 |x::l=>if x=c then some ([],l) else(cutB c l).map fun p=>(x::p.1,p.2)
theorem cutB_none{c:UInt8}:∀{l:Bs},cutB c l=none↔c∉l
 |[]=>by simp[cutB]
 |x::l=>by
  simp only[cutB]
  split
  ·rename_i h;subst h;simp
  ·rename_i h
   simp only[Option.map_eq_none_iff,cutB_none (l:=l),List.mem_cons,not_or]
   exact⟨fun h'=>⟨fun e=>h e.symm,h'⟩,fun h'=>h'.2⟩
theorem cutB_some{c:UInt8}:∀{l a b:Bs},cutB c l=some (a,b)↔(l=a++c::b∧c∉a)
 |[],a,b=>by simp[cutB]
 |x::l,a,b=>by
  simp only[cutB]
  split
  ·rename_i h;subst h
   constructor
   ·intro e;simp only[Option.some.injEq,Prod.mk.injEq] at e;obtain⟨rfl,rfl⟩:=e;simp
   ·rintro⟨e,hn⟩
    cases a with
    |nil=>simp at e;simp[e]
    |cons y a=>simp at e;obtain⟨rfl,_⟩:=e;simp at hn
  ·rename_i h
   constructor
   ·intro e
    simp only[Option.map_eq_some_iff,Prod.mk.injEq,Prod.exists] at e
    obtain⟨a',b',h1,rfl,rfl⟩:=e
    obtain⟨h2,h3⟩:=cutB_some.1 h1
    refine⟨by rw[h2];rfl,?_⟩
    simp only[List.mem_cons,not_or]
    exact⟨fun e=>h e.symm,h3⟩
   ·rintro⟨e,hn⟩
    cases a with
    |nil=>simp at e;exact absurd e.1 h
    |cons y a=>
     simp only[List.cons_append,List.cons.injEq] at e
     obtain⟨rfl,e⟩:=e
     simp only[List.mem_cons,not_or] at hn
     rw[cutB_some.2 ⟨e,hn.2⟩];rfl
theorem cutB_at{c:UInt8}{a:Bs}(b:Bs)(h:c∉a):cutB c (a++c::b)=some (a,b):=cutB_some.2 ⟨rfl,h⟩
theorem index_cut{c:UInt8}:∀{l:Bs},Lib.indexByte l c=match cutB c l with|none=>-1|some p=>(p.1.length:Int)
 |[]=>rfl
 |x::l=>by
  simp only[Lib.indexByte,cutB]
  by_cases h:x=c
  ·subst h;simp
  ·have h':(x==c)=false:=by simpa using h
   rw[if_neg h,h',index_cut (l:=l)]
   cases cutB c l with
   |none=>simp
   |some p=>simp
theorem cutB_len{c:UInt8}{l a b:Bs}(h:cutB c l=some (a,b)):b.length<l.length:=by
 obtain⟨h1,_⟩:=cutB_some.1 h
 rw[h1];simp;omega
abbrev Fd:=Int×Bs
def rightF(f:Fd):Bool:=decide (1≤f.1)&&decide (f.1≤9999)&&decide (1≤f.2.length)&&decide (f.2.length≤256)&&decide ((1:UInt8)∉f.2)
def encF(f:Fd):Bs:=showF f.1++61::(f.2++[1])
def encL:List Fd→Bs
 |[]=>[]
 |f::l=>encF f++encL l
def putF(l:List Fd):Bs×Int:=if 100<l.length then([],4) else if l.all rightF=true then(encL l,0) else([],1)
def readF(t:Bs):Option Fd:=
 match cutB 61 t with
 |none=>none
 |some (a,v)=>if(parseF a).2=0∧1≤(parseF a).1∧(parseF a).1≤9999∧rightF ((parseF a).1,v)=true then some ((parseF a).1,v) else none
def parseGo(acc:List Fd)(b:Bs):List Fd×Int:=
 if b=[] then(acc,0)
 else match h:cutB 1 b with
  |none=>([],2)
  |some (t,r)=>match readF t with
   |none=>([],3)
   |some f=>if acc.length=100 then([],4) else parseGo (acc++[f]) r
termination_by b.length
decreasing_by exact cutB_len h
def parseL(b:Bs):List Fd×Int:=if 65536<b.length then([],4) else parseGo [] b
theorem parseGo_nil{acc:List Fd}:parseGo acc []=(acc,0):=by rw[parseGo];simp
theorem parseGo_short{acc:List Fd}{b:Bs}(h:b≠[])(hc:cutB 1 b=none):parseGo acc b=([],2):=by
 rw[parseGo,if_neg h]
 split
 ·rfl
 ·rename_i h2;rw[hc] at h2;simp at h2
theorem parseGo_cut{acc:List Fd}{b t r:Bs}(hc:cutB 1 b=some (t,r)):parseGo acc b=match readF t with
 |none=>([],3)
 |some f=>if acc.length=100 then([],4) else parseGo (acc++[f]) r:=by
 have h:b≠[]:=by rintro rfl;simp[cutB] at hc
 rw[parseGo,if_neg h]
 split
 ·rename_i h2;rw[hc] at h2;simp at h2
 ·rename_i t' r' h2;rw[hc] at h2;simp only[Option.some.injEq,Prod.mk.injEq] at h2;obtain⟨rfl,rfl⟩:=h2;rfl
theorem show_bytes{n:Int}(h1:1≤n)(h2:n≤9999):numOK n=true∧showF n=Lib.decDigits n.toNat∧(1:UInt8)∉showF n∧(61:UInt8)∉showF n∧(showF n).length≤4:=by
 have hok:numOK n=true:=by simp only[numOK,Bool.and_eq_true,decide_eq_true_eq];omega
 have e:showF n=Lib.decDigits n.toNat:=by rw[showF,if_pos hok,Lib.itoa,if_neg (by omega)]
 have hd:=decDigits_dig n.toNat
 rw[List.all_eq_true] at hd
 refine⟨hok,e,?_,?_,?_⟩
 ·rw[e];intro hm;have:=hd _ hm;simp[isDig] at this
 ·rw[e];intro hm;have:=hd _ hm;simp[isDig] at this
 ·rw[e];exact dec_len (by omega) (by omega)
theorem rightF_iff{f:Fd}:rightF f=true↔1≤f.1∧f.1≤9999∧1≤f.2.length∧f.2.length≤256∧(1:UInt8)∉f.2:=by
 simp only[rightF,Bool.and_eq_true,decide_eq_true_eq,and_assoc]
theorem read_enc{f:Fd}(h:rightF f=true):readF (showF f.1++61::f.2)=some f:=by
 have h':=rightF_iff.1 h
 obtain⟨hok,_,_,h61,_⟩:=show_bytes h'.1 h'.2.1
 unfold readF
 rw[cutB_at _ h61]
 simp only[parse_show hok]
 rw[if_pos (by simp[h'.1,h'.2.1,h])]
theorem read_inv{t:Bs}{f:Fd}(h:readF t=some f):rightF f=true∧t=showF f.1++61::f.2:=by
 unfold readF at h
 split at h
 ·simp at h
 ·rename_i a v hc
  split at h
  ·rename_i hh
   simp only[Option.some.injEq] at h
   subst h
   obtain⟨e,_⟩:=cutB_some.1 hc
   have:parseF a=((parseF a).1,0):=by rw[←hh.1]
   obtain⟨_,h2⟩:=show_parse this
   refine⟨hh.2.2.2,?_⟩
   simp only[h2];exact e
  ·simp at h
theorem enc_no1{f:Fd}(h:rightF f=true):(1:UInt8)∉showF f.1++61::f.2:=by
 have h':=rightF_iff.1 h
 obtain⟨_,_,h1,_,_⟩:=show_bytes h'.1 h'.2.1
 simp only[List.mem_append,List.mem_cons,not_or]
 exact⟨h1,by decide,h'.2.2.2.2⟩
theorem encF_eq(f:Fd)(r:Bs):encF f++r=(showF f.1++61::f.2)++1::r:=by simp[encF]
theorem parse_enc:∀(l:List Fd) (acc:List Fd) (r:Bs),l.all rightF=true→acc.length+l.length≤100→parseGo acc (encL l++r)=parseGo (acc++l) r
 |[],acc,r,_,_=>by simp[encL]
 |f::l,acc,r,h,hl=>by
  simp only[List.all_cons,Bool.and_eq_true] at h
  simp only[List.length_cons] at hl
  have e:encL (f::l)++r=(showF f.1++61::f.2)++1::(encL l++r):=by
   show(encF f++encL l)++r=_
   rw[List.append_assoc,encF_eq]
  rw[e,parseGo_cut (cutB_at _ (enc_no1 h.1)),read_enc h.1]
  simp only
  rw[if_neg (by omega),parse_enc l (acc++[f]) r h.2 (by simp;omega)]
  simp
theorem parse_inv:∀(n:Nat) (b:Bs) (acc m:List Fd),b.length≤n→acc.length≤100→parseGo acc b=(m,0)→∃l,m=acc++l∧b=encL l∧l.all rightF=true∧m.length≤100:=by
 intro n
 induction n with
 |zero=>
  intro b acc m hn ha h
  have:b=[]:=List.eq_nil_of_length_eq_zero (by omega)
  subst this
  rw[parseGo_nil] at h
  simp only[Prod.mk.injEq,and_true] at h;subst h
  exact⟨[],by simp,rfl,rfl,ha⟩
 |succ n ih=>
  intro b acc m hn ha h
  by_cases hb:b=[]
  ·subst hb
   rw[parseGo_nil] at h
   simp only[Prod.mk.injEq,and_true] at h;subst h
   exact⟨[],by simp,rfl,rfl,ha⟩
  cases hc:cutB 1 b with
  |none=>rw[parseGo_short hb hc] at h;simp at h
  |some p=>
   obtain⟨t,r⟩:=p
   rw[parseGo_cut hc] at h
   cases hr:readF t with
   |none=>rw[hr] at h;simp at h
   |some f=>
    rw[hr] at h
    simp only at h
    split at h
    ·simp at h
    ·rename_i h100
     have hlt:=cutB_len hc
     obtain⟨l,h1,h2,h3,h4⟩:=ih r (acc++[f]) m (by omega) (by simp;omega) h
     obtain⟨h5,h6⟩:=read_inv hr
     refine⟨f::l,by rw[h1];simp,?_,by simp[h5,h3],h4⟩
     rw[(cutB_some.1 hc).1,h6,h2]
     show _=encF f++encL l
     rw[encF_eq]
theorem parseGo_err:∀(n:Nat) (b:Bs) (acc:List Fd),b.length≤n→(parseGo acc b).2≠0→(parseGo acc b).1=[]:=by
 intro n
 induction n with
 |zero=>
  intro b acc hn h
  have:b=[]:=List.eq_nil_of_length_eq_zero (by omega)
  subst this
  rw[parseGo_nil] at h;simp at h
 |succ n ih=>
  intro b acc hn h
  by_cases hb:b=[]
  ·subst hb;rw[parseGo_nil] at h;simp at h
  cases hc:cutB 1 b with
  |none=>rw[parseGo_short hb hc]
  |some p=>
   obtain⟨t,r⟩:=p
   rw[parseGo_cut hc] at h ⊢
   cases hr:readF t with
   |none=>rfl
   |some f=>
    rw[hr] at h
    simp only at h ⊢
    split
    ·rfl
    ·rename_i h100
     rw[if_neg h100] at h
     exact ih r _ (by have:=cutB_len hc;omega) h
theorem parse_put{a b:List Fd}(ha:a.all rightF=true)(hb:b.all rightF=true)(h:a.length+b.length≤100)(hs:(encL a++encL b).length≤65536):parseL (encL a++encL b)=(a++b,0):=by
 rw[parseL,if_neg (by omega),parse_enc a [] _ ha (by simp;omega)]
 have:=parse_enc b a [] hb h
 simp only[List.append_nil] at this
 simp only[List.nil_append,this,parseGo_nil]
theorem parse_err{b:Bs}(h:(parseL b).2≠0):(parseL b).1=[]:=by
 unfold parseL at h ⊢
 split
 ·rfl
 ·rename_i h1;rw[if_neg h1] at h;exact parseGo_err _ b [] (Nat.le_refl _) h
theorem encF_len{f:Fd}(h:rightF f=true):(encF f).length≤262:=by
 have h':=rightF_iff.1 h
 have:=(show_bytes h'.1 h'.2.1).2.2.2.2
 simp only[encF,List.length_append,List.length_cons,List.length_nil]
 omega
theorem encL_len:∀{l:List Fd},l.all rightF=true→(encL l).length≤262*l.length
 |[],_=>by simp[encL]
 |f::l,h=>by
  simp only[List.all_cons,Bool.and_eq_true] at h
  have:=encF_len h.1
  have:=encL_len h.2
  simp only[encL,List.length_append,List.length_cons];omega
def getF(l:List Fd)(tag:Int):Bs×Bool:=
 match l with
 |[]=>([],false)
 |f::r=>if f.1=tag then(f.2,true) else getF r tag
def numF(l:List Fd)(tag:Int):Int×Bool:=if(getF l tag).2=true then(if(parseF (getF l tag).1).2=0 then((parseF (getF l tag).1).1,true) else(0,false)) else(0,false)
theorem u8_eq{b c:UInt8}{n:Int}(h:(b.toNat:Int)=n)(hc:(c.toNat:Int)=n):b=c:=UInt8.toNat_inj.1 (by omega)
theorem u8_ne{b c:UInt8}{n:Int}(h:¬(b.toNat:Int)=n)(hc:(c.toNat:Int)=n):b≠c:=fun e=>h (by rw[e];exact hc)
theorem mem_at{l:Bs}{i:Nat}{b c:UInt8}{n:Int}(hb:l[i]?=some b)(h:(b.toNat:Int)=n)(hc:(c.toNat:Int)=n):c∈l:=by
 rw[←u8_eq h hc];exact List.mem_of_getElem? hb
theorem take_next{α:Type}{l:List α}{i:Nat}{b:α}(hb:l[i]?=some b):l.take (i+1)=l.take i++[b]:=by
 rw[List.take_add_one,hb];rfl
theorem nmem_next{l:Bs}{i:Nat}{b c:UInt8}(hb:l[i]?=some b)(h:c∉l.take i)(hn:b≠c):c∉l.take (i+1):=by
 rw[take_next hb];simp only[List.mem_append,List.mem_singleton,not_or];exact⟨h,fun e=>hn e.symm⟩
theorem right_eq{f:Fld.Fd}{b:Bool}(h:(b=true)↔(1≤f.1∧f.1≤9999∧1≤f.2.length∧f.2.length≤256∧(1:UInt8)∉f.2)):b=rightF f:=Bool.eq_iff_iff.2 (by rw[rightF_iff];exact h)
def msr(n:Int):Nat:=if n<0 then 2*n.natAbs+1 else 2*n.toNat
theorem drop_at{α:Type}{l:List α}{i:Nat}{b:α}(hb:l[i]?=some b):l.drop i=b::l.drop (i+1):=by
 have h:i<l.length:=by
  rcases Nat.lt_or_ge i l.length with h|h
  ·exact h
  ·rw[List.getElem?_eq_none h] at hb;simp at hb
 rw[List.drop_eq_getElem_cons h]
 rw[List.getElem?_eq_getElem h] at hb
 simp only[Option.some.injEq] at hb;rw[hb]
theorem get_lt{α:Type}{l:List α}{i:Nat}{b:α}(hb:l[i]?=some b):i<l.length:=by
 rcases Nat.lt_or_ge i l.length with h|h
 ·exact h
 ·rw[List.getElem?_eq_none h] at hb;simp at hb
end Go.Fld
namespace Go.Fld
open Go
theorem show_len(n:Int):(showF n).length≤20:=by
 unfold showF
 split
 ·rename_i h
  simp only[numOK,Bool.and_eq_true,decide_eq_true_eq] at h
  unfold Lib.itoa
  split
  ·have:=dec_len (u:=n.natAbs) (k:=19) (by omega) (by omega)
   simp;omega
  ·have:=dec_len (u:=n.toNat) (k:=19) (by omega) (by omega)
   omega
 ·simp
theorem show_neg{n:Int}(h:numOK n=true)(hn:n<0):showF n=45::showF (-n):=by
 have h':=h
 simp only[numOK,Bool.and_eq_true,decide_eq_true_eq] at h'
 have h2:numOK (-n)=true:=by simp only[numOK,Bool.and_eq_true,decide_eq_true_eq];omega
 rw[showF,showF,if_pos h,if_pos h2,Lib.itoa,Lib.itoa,if_pos hn,if_neg (by omega)]
 congr 2;omega
theorem show_dig{n:Int}(h0:0≤n)(h1:n<10):showF n=[UInt8.ofNat (48+n.toNat)]:=by
 have h:numOK n=true:=by simp only[numOK,Bool.and_eq_true,decide_eq_true_eq];omega
 rw[showF,if_pos h,Lib.itoa,if_neg (by omega),Lib.decDigits_one (by omega)]
theorem show_big{n:Int}(h:numOK n=true)(h1:10≤n):showF n=showF (n.tdiv 10)++[UInt8.ofNat (48+(n.tmod 10).toNat)]:=by
 have h':=h
 simp only[numOK,Bool.and_eq_true,decide_eq_true_eq] at h'
 rw[Int.tdiv_eq_ediv_of_nonneg (by omega),Int.tmod_eq_emod_of_nonneg (by omega)]
 have h2:numOK (n/10)=true:=by simp only[numOK,Bool.and_eq_true,decide_eq_true_eq];omega
 rw[showF,showF,if_pos h,if_pos h2,Lib.itoa,Lib.itoa,if_neg (by omega),if_neg (by omega)]
 rw[Lib.decDigits,dif_neg (by omega)]
 have e1:n.toNat/10=(n/10).toNat:=by omega
 have e2:n.toNat%10=(n%10).toNat:=by omega
 rw[e1,e2]
theorem enc_dig{d:Int}(h0:0≤d)(h1:d<10):Utf8.encode (IntKind.i32.wrap (IntKind.i64.wrap (48+d)))=⟨[UInt8.ofNat (48+d.toNat)].toArray⟩:=by
 obtain rfl|rfl|rfl|rfl|rfl|rfl|rfl|rfl|rfl|rfl:d=0∨d=1∨d=2∨d=3∨d=4∨d=5∨d=6∨d=7∨d=8∨d=9:=by omega
 all_goals decide
theorem numOK_iff{n:Int}:numOK n=true↔-4611686018427387904≤n∧n≤4611686018427387904:=by
 simp only[numOK,Bool.and_eq_true,decide_eq_true_eq]
end Go.Fld
namespace Go.Fld
theorem msr_neg{n:Int}(h:numOK n=true)(hn:n<0):msr (IntKind.i64.wrap (0-n))<msr n:=by
 have hh:=numOK_iff.1 h
 have e:IntKind.i64.wrap (0-n)=0-n:=by rw[IntKind.wrap_i64];omega
 rw[e];unfold msr;rw[if_neg (by omega),if_pos hn];omega
theorem wdiv{n:Int}(h:numOK n=true):IntKind.i64.wrap (n.tdiv 10)=n.tdiv 10:=by
 have hh:=numOK_iff.1 h
 rw[IntKind.wrap_i64]
 rcases Int.le_total 0 n with h0|h0
 ·rw[Int.tdiv_eq_ediv_of_nonneg h0];omega
 ·have:n.tdiv 10= -((-n)/10):=by rw[←Int.neg_neg n,Int.neg_tdiv,Int.tdiv_eq_ediv_of_nonneg (by omega),Int.neg_neg]
  rw[this];omega
theorem msr_div{n:Int}(h:numOK n=true)(hn:¬n<10):msr (IntKind.i64.wrap (n.tdiv 10))<msr n:=by
 rw[wdiv h,Int.tdiv_eq_ediv_of_nonneg (by omega)];unfold msr;rw[if_neg (by omega),if_neg (by omega)];omega
end Go.Fld
namespace Go.Fld
open Go
theorem signed_eq(l:Bs):Lib.trimPrefix l [45]=(signed l).1∧Lib.hasPrefix l [45]=(signed l).2:=by
 unfold signed
 split
 ·constructor<;>simp[Lib.trimPrefix,Lib.hasPrefix]
 ·rename_i h
  have:Lib.hasPrefix l [45]=false:=by
   cases l with
   |nil=>rfl
   |cons c r=>
    simp only[Lib.hasPrefix,List.isPrefixOf,Bool.and_true]
    rw[beq_eq_false_iff_ne]
    intro e;exact h r (by rw[←e])
  rw[Lib.trimPrefix,this];exact⟨rfl,rfl⟩
theorem parse_long{l:Bs}(h:20<l.length):parseF l=(0,4):=by unfold parseF;rw[if_pos h]
theorem parse_form{l:Bs}(h:¬20<l.length)(h1:(signed l).1=[]∨((signed l).1.head?=some 48∧1<l.length)):parseF l=(0,3):=by unfold parseF;rw[if_neg h,if_pos h1]
theorem parse_dig{l:Bs}(h:¬20<l.length)(h2:(signed l).1.all isDig=false):parseF l=(0,3):=by
 unfold parseF;rw[if_neg h];split
 ·rfl
 ·rfl
theorem parse_over{l:Bs}(h:¬20<l.length)(h1:¬((signed l).1=[]∨((signed l).1.head?=some 48∧1<l.length)))(h2:(signed l).1.all isDig=true)(h3:4611686018427387904<decVal 0 (signed l).1):parseF l=(0,9):=by
 unfold parseF;rw[if_neg h,if_neg h1,if_neg (by rw[h2];simp),if_pos h3]
theorem parse_ok{l:Bs}(h:¬20<l.length)(h1:¬((signed l).1=[]∨((signed l).1.head?=some 48∧1<l.length)))(h2:(signed l).1.all isDig=true)(h3:¬4611686018427387904<decVal 0 (signed l).1):
 parseF l=(if(signed l).2=true then -((decVal 0 (signed l).1:Nat):Int) else((decVal 0 (signed l).1:Nat):Int),0):=by
 unfold parseF;rw[if_neg h,if_neg h1,if_neg (by rw[h2];simp),if_neg h3]
theorem all_next{l:Bs}{i:Nat}{b:UInt8}(hb:l[i]?=some b)(h:(l.take i).all isDig=true)(h1:¬(b.toNat:Int)<48)(h2:¬57<(b.toNat:Int)):(l.take (i+1)).all isDig=true:=by
 rw[take_next hb,List.all_append,h]
 simp only[List.all_cons,List.all_nil,Bool.and_true,Bool.true_and,isDig,Bool.and_eq_true,decide_eq_true_eq];omega
theorem all_not{l:Bs}{i:Nat}{b:UInt8}(hb:l[i]?=some b)(h:(b.toNat:Int)<48∨57<(b.toNat:Int)):l.all isDig=false:=by
 rw[Bool.eq_false_iff];intro e
 rw[List.all_eq_true] at e
 have:=e b (List.mem_of_getElem? hb)
 simp only[isDig,Bool.and_eq_true,decide_eq_true_eq] at this;omega
theorem head_at{l:Bs}{b:UInt8}(hb:l[0]?=some b):l.head?=some b:=by rw[List.head?_eq_getElem?];exact hb
end Go.Fld
namespace Go.Fld
theorem signed_len(l:Bs):(signed l).1.length≤l.length:=by
 unfold signed;split<;>simp
end Go.Fld
namespace Go.Fld
theorem all_done{l:Bs}{i:Nat}(h1:i≤l.length)(c:¬(i:Int)<(l.length:Int))(h2:(l.take i).all isDig=true):l.all isDig=true:=by
 rw[List.take_of_length_le (by omega)] at h2;exact h2
theorem signed_one{l:Bs}(h:(signed l).2=true):l.length=(signed l).1.length+1:=by
 unfold signed at h ⊢;split at h
 ·rfl
 ·simp at h
theorem signed_no{l:Bs}(h:(signed l).2=false):(signed l).1=l:=by
 unfold signed at h ⊢;split at h
 ·simp at h
 ·rfl
theorem form_yes1{l:Bs}{b:UInt8}(hb:(signed l).1[0]?=some b)(h:(b.toNat:Int)=48)(h2:(signed l).2=true):(signed l).1=[]∨((signed l).1.head?=some 48∧1<l.length):=by
 right
 have e:b=48:=u8_eq h rfl
 refine⟨by rw[head_at hb,e],?_⟩
 have:=signed_one h2
 have:=get_lt hb
 omega
theorem form_yes2{l:Bs}{b:UInt8}(hb:(signed l).1[0]?=some b)(h:(b.toNat:Int)=48)(h2:(1:Int)<((signed l).1.length:Int)):(signed l).1=[]∨((signed l).1.head?=some 48∧1<l.length):=by
 right
 have e:b=48:=u8_eq h rfl
 refine⟨by rw[head_at hb,e],?_⟩
 have:=signed_len l
 omega
theorem form_no1{l:Bs}{b:UInt8}(hb:(signed l).1[0]?=some b)(h:¬(b.toNat:Int)=48):¬((signed l).1=[]∨((signed l).1.head?=some 48∧1<l.length)):=by
 rintro(e|⟨e,_⟩)
 ·rw[e] at hb;simp at hb
 ·rw[head_at hb] at e;simp only[Option.some.injEq] at e;subst e;exact h rfl
theorem form_no2{l:Bs}(ha:¬(signed l).1=[])(h:(signed l).2=false)(h1:¬(1:Int)<((signed l).1.length:Int)):¬((signed l).1=[]∨((signed l).1.head?=some 48∧1<l.length)):=by
 rintro(e|⟨_,e⟩)
 ·exact ha e
 ·rw[signed_no h] at h1;omega
end Go.Fld
namespace Go.Fld
open Go
end Go.Fld
namespace Go.Fld
open Go
end Go.Fld
namespace Go.Fld
open Go
end Go.Fld
namespace Go.Fld
open Go
end Go.Fld
end
