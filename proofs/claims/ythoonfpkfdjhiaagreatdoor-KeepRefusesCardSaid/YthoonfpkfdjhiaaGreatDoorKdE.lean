/- Texts of one chain, put together (Lm, Ln, Facts, FldP, FldQ). -/
import Derived.Test.YthoonfpkfdjhiaaGreatDoorKdD
import Derived.Laws.Externs
import Derived.Test.YthoonfpkfdjhiaaGreatDoorRows
import Derived.Lib.ParseIntB
import Derived.Lib.ItoaNum
import Derived.Lib.IndexMore
import Derived.Lib.Strings
import Derived.Test.YthoonfpkfdjhiaaGreatDoorKdA
set_option linter.unusedVariables false
set_option linter.unusedSimpArgs false
set_option maxHeartbeats 16000000
set_option maxRecDepth 8000
section
namespace Go.az
open Go Go.RowKit
theorem al.kD{E:Env}{Q:Exit→St→Prop}{st:St}{ops:Array Oper}{l:List Oper}{dst:Option Tmp}{t ty:TypeId}{pos:String}{after:Array Edge}{e:TypeId}{k n:Nat}(hai:cL E.P t=some (e,k,n))
 (h:al E ops l Q (St.put { st with own:=st.own++[some []] } dst (.mu st.own.length k 0 0 0))):al E ops (⟨dst,.buildSlice t 0 #[],ty,pos,after,none⟩::l) Q st:=by
 intro w0 im0 cx a w h0 hG r
 refine wpList_step (fun K' hK'=>?_)
 have hw:Region.wanted ⟨dst,.buildSlice t 0 #[],ty,pos,after,none⟩ (yielded ops a.tmps)=true:=rfl
 rw[if_pos hw]
 obtain⟨hu,hs,hk0,i,zv,hi,hz,hsize,hbytes,hzs⟩:=gj hai
 have hrun:(Instr.buildSlice t 0 #[]).run E.P w= .ok (.slice (some ⟨w.heap.size,0,none⟩) 0 0) (w.alloc (.cells #[] e)):=by
  unfold Instr.buildSlice
  simp only[Sem.run_bind,bV hu,Result.andThen_ok,dq hs,Sem.run_ite,Nat.zero_mul,if_true,Sem.run_pure]
  have e0:Array.range 0= #[]:=Array.eq_empty_of_size_eq_zero aB
  simp[newRow,Instr.fill,e0]
 obtain⟨hle,r2⟩:=r.oR (ns w (.cells #[] e)) (g:=w.heap.size) (k:=k) (es:=[]) (Nat.le_refl _) ⟨#[],e,0,0,js w _,.inl rfl,by simp,by simp,by simp⟩
 have hv:VR { cx with β:=cx.β++[some (w.heap.size,k)] } (.mu st.own.length k 0 0 0) (.slice (some ⟨w.heap.size,0,none⟩) 0 0):=by
  have hb:(cx.β++[some (w.heap.size,k)])[st.own.length]?=some (some (w.heap.size,k)):=by
   rw[←r.bS,List.getElem?_append_right (Nat.le_refl _)];simp
  have:=VR.mu (c:={ cx with β:=cx.β++[some (w.heap.size,k)] }) (id:=st.own.length) (off:=0) (len:=0) (cap:=0) hb (Nat.le_refl _)
  rwa[Nat.zero_mul] at this
 refine eI (w':=w.alloc (.cells #[] e)) (v:= .slice (some ⟨w.heap.size,0,none⟩) 0 0) ?_ (hK' _ _ (h w0 im0 _ _ _ h0 hG (r2.put dst hv)))
 simp only[execOp,Array.map_empty,Sem.run_bind,hrun,Result.andThen_ok,Sem.run_pure]
theorem al.kh{E:Env}{Q:Exit→St→Prop}{st:St}{ops:Array Oper}{l:List Oper}{dst:Option Tmp}{t tx ty:TypeId}{x y:Operand}{pos:String}{after:Array Edge}{e:TypeId}{k n id:Nat}{xs:List AV}
 (hx:er E.P tx=true) (hai:cL E.P t=some (e,k,n)) (hs:st.ev x= .mu id k 0 0 0) (hsrc:fB (st.ev y) k=some xs) (ho:st.own[id]?=some (some [])) (h62:xs.length≤4611686018427387904) (hbt:xs.length*n≤140737488355328)
 (h:∀m,al E ops l Q (St.put { st with own:=st.own.set id none++[some (xs++spare k m)] } dst (.mu st.own.length k 0 xs.length (xs.length+m)))):al E ops (⟨dst,.call ⟨.builtin .append,#[x,y],#[t,tx]⟩,ty,pos,after,none⟩::l) Q st:=by
 intro w0 im0 cx a w h0 hG r
 refine wpList_step (fun K' hK'=>?_)
 have hw:Region.wanted ⟨dst,.call ⟨.builtin .append,#[x,y],#[t,tx]⟩,ty,pos,after,none⟩ (yielded ops a.tmps)=true:=rfl
 rw[if_pos hw]
 have hv:=r.ev x
 rw[hs] at hv
 have fin:∀(v':Value) (w':World) (c':Ctx) (m:Nat),(Builtin.append_ #[t,tx] ty #[a.eval x,a.eval y]).run E.P w= .ok v' w'→Rel w0 im0 c' { st with own:=st.own.set id none++[some (xs++spare k m)] } a w'→VR c' (.mu st.own.length k 0 xs.length (xs.length+m)) v'→
  Oper.wp E.P ⟨dst,.call ⟨.builtin .append,#[x,y],#[t,tx]⟩,ty,pos,after,none⟩ a w K' (fun e a' w'=>gJ w0 im0 (Q e) a' w'):=fun v' w' c' m h1 h2 h3=>by
  refine eI (w':=w') (v:=v') ?_ (hK' _ _ (h m w0 im0 _ _ _ h0 hG (h2.put dst h3)))
  simp only[execOp,resolve,Sem.run_bind,Sem.run_pure,Result.andThen_ok,invoke,builtin,List.map_toArray,List.map_cons,List.map_nil,h1]
 by_cases hne:xs=[]
 ·subst hne
  obtain⟨hu,hss,hk0,i,zv,hi,hz,hsize,hbytes,hzs⟩:=gj hai
  obtain⟨news,hnl,hnc,hlen,hone,hfirst⟩:=oE (P:=E.P) r (r.ev y) hk0 hsrc
  have hnews:news=[]:=List.eq_nil_of_length_eq_zero (by simpa using hnl)
  subst hnews
  have hrun:∀base,a.eval x= .slice base 0 0→(Builtin.append_ #[t,tx] ty #[a.eval x,a.eval y]).run E.P w= .ok (a.eval x) w:=fun base hb=>by
   rw[hb]
   have:=pQ (P:=E.P) (w:=w) (ty:=ty) (base:=base) (n:=0) (cap:=0) hu hss hx (hlen w) (hfirst w (fun _ _=>rfl)) aB
   rw[this]
   cases base<;>simp[storeCells]
  rcases hv.cW with⟨g,hb,_,he⟩|⟨_,_,he⟩
  ·obtain⟨hle,r2⟩:=r.vx hb ho
   refine fin _ w _ 0 (hrun _ he) (by simpa[spare] using r2) ?_
   rw[he]
   exact .mu (by show(cx.β++[_])[_]?=_;rw[←r.bS];simp) aB
  ·obtain⟨hle,r2⟩:=(r.mo id).rS
   exact fin _ w _ 0 (hrun _ he) (by simpa[spare] using r2) (by rw[he];exact .jR)
 ·obtain⟨v',w',c',m,hr,hR,hV⟩:=uf (P:=E.P) (ty:=ty) r hx hai (r.ev y) hsrc hne (es:=[]) (sp:=[]) hv ho (by simpa using h62) (by simpa using hbt)
  exact fin v' w' c' m hr (by simpa using hR) (by simpa using hV)
end Go.az
namespace Go.az
open Go Go.RowKit
def vA:AV→Bool
 |.mu _ _ _ _ _=>false
 |_=>true
def gH(st:St):Option Oper→Prop
 |some o=>match o.op with
  |.call cl=>match cl.callee,cl.args.toList with
   |.builtin .append,x::_=>vA (st.ev x)=true
   |_,_=>True
  |_=>True
 |none=>True
def tq:Op→Bool
 |.store .. =>true
 |_=>false
def fg(E:Env)(ops:Array Oper)(i:Nat)(C:St→Prop)(st:St):Prop:=gH st ops[i]?∧bH E ops i C st
def fN(E:Env)(ops:Array Oper)(K:St→Prop):cK→St→Prop
 |.done,st=>K st
 |.take i p,st=>fg E ops i (fN E ops K p) st
 |.fork p,st=>fN E ops K p st
 |.alt i p rest,st=>fg E ops i (fN E ops K p) st∧fN E ops K rest st
 |.ends,_=>True
def j8(E:Env)(ops:Array Oper)(K:St→Prop):Nat→Array Bool→St→Prop
 |0,L,st=>Region.ready .any ops L=[]∧K st
 |n+1,L,st=>(Region.ready .any ops L=[]→K st)∧∀i∈Region.ready .any ops L,fg E ops i (j8 E ops K n (L.setIfInBounds i true)) st
def pV(P:Program)(ops:Array Oper)(p o:Oper):Bool:=
 (nP P p.op&&o7 P p.op&&(!tq o.op||!ju p.op)) &&
 (match p.dst with|none=>true|some d=>!(Oper.looksAt ops o).contains d&&o.dst !=some d) &&
 (match o.dst with|none=>true|some d=>!(Oper.looksAt ops p).contains d)
def nG(P:Program)(ops:Array Oper)(anc:List (List Nat))(L:Array Bool)(p:Nat):Bool:=
 match ops[p]? with
 |none=>false
 |some x=>(List.range ops.size).all fun o=>o==p||L.getD o true||(anc.getD o []).contains p||(match ops[o]? with|none=>true|some y=>pV P ops x y)
def jW(P:Program)(ops:Array Oper)(anc:List (List Nat)):Bool→cK→Array Bool→Nat→Bool
 |b,.done,L,_=>b&&(Region.ready .any ops L).isEmpty
 |b,.take i p,L,n=>b&&(match n with|0=>false|m+1=>(Region.ready .any ops L).contains i&&nG P ops anc L i&&jW P ops anc true p (L.setIfInBounds i true) m)
 |b,.fork p,L,n=>b&&(p.alts==Region.ready .any ops L)&&!p.alts.isEmpty&&jW P ops anc false p L n
 |b,.alt i p rest,L,n=>!b&&(match n with|0=>false|m+1=>(Region.ready .any ops L).contains i&&jW P ops anc true p (L.setIfInBounds i true) m&&jW P ops anc false rest L (m+1))
 |b,.ends,_,_=>!b
section
variable{E:Env}{ops:Array Oper}{K:St→Prop}{anc:List (List Nat)}
theorem fg.mono{i:Nat}{C D:St→Prop}{st:St}(hk:fg E ops i C st)(h:∀s,C s→D s):fg E ops i D st:=⟨hk.1,hk.2.mono h⟩
theorem j8.drop:∀{n:Nat} {L:Array Bool} {st:St},j8 E ops K n L st→ld E ops K n L st
 |0,_,_,h=>h
 |_+1,_,_,h=>⟨h.1,fun i hi=>(h.2 i hi).2.mono fun _=>j8.drop⟩
theorem Zd{P:Program}{p:Oper}{st:St}(h:nP P p.op=true):gH st (some p):=by
 obtain⟨dst,op,type,pos,after,guard⟩:=p
 unfold gH
 cases op<;>simp only
 case call cl=>
  obtain⟨callee,args,tys⟩:=cl
  simp only[nP] at h
  cases callee with
  |value f=>simp at h
  |invoke=>simp at h
  |builtin b=>cases b<;>simp only at h ⊢ <;>first|trivial|(simp at h;done)
theorem Ze{st:St}{d:Option Tmp}{y:AV}{o:Oper}(h:∀t∈Oper.looksAt ops o,d≠some t):gH (st.put d y) (some o)=gH st (some o):=by
 unfold gH
 obtain⟨dst,op,type,pos,after,guard⟩:=o
 cases op<;>simp only
 case call cl=>
  obtain⟨callee,args,tys⟩:=cl
  simp only
  split
  ·rename_i x xs h1
   rw[nD]
   intro t ht
   exact h t (nQ (by simp[Op.operands,Call.operands];rw[←Array.mem_toList_iff,h1,ht];simp))
  ·rfl
theorem jV{o:Oper}{s:St}{C:St→Prop}(ht:gH s (some o))(hset:tq o.op=false)(hk:eh E o s C):eh E o s (fun s'=>C s'∧iG s s'):=by
 cases hso:hZ o.op with
 |false=>
  refine oT (fun _ _=>rfl) rfl rfl rfl rfl hk (fun s' t' hc ha=>?_)
  obtain⟨z,h1,h2⟩:=ha.at'
  have:t'=s':=by rw[h2,←h1]
  rw[this];exact⟨hc,ha.ext hso⟩
 |true=>
  obtain⟨dst,op,type,pos,after,guard⟩:=o
  cases op<;>simp only[hZ,tq] at hso hset<;>try(simp at hso;done)
  case store=>simp at hset
  case call cl=>
   obtain⟨callee,args,tys⟩:=cl
   simp only at hso
   cases callee with
   |value f=>simp at hso
   |invoke=>simp at hso
   |builtin b=>
    cases b<;>simp only at hso<;>try(simp at hso;done)
    unfold eh at hk ⊢
    simp only at hk ⊢
    split at hk
    ·rename_i x y t tx hargs htys
     rename_i hcal
     simp only[gH,hargs] at ht
     obtain⟨g1,e,k,n,xs,g2,g3,hk⟩:=hk
     refine⟨g1,e,k,n,xs,g2,g3,?_⟩
     split at hk
     ·obtain⟨g4,g5,g6,g7,hk⟩:=hk
      exact⟨g4,g5,g6,g7,hk,fun id es he=>by rw[dj.1];exact he⟩
     ·obtain⟨g6,g7,hk⟩:=hk
      exact⟨g6,g7,hk,fun id es he=>by rw[dj.1];exact he⟩
     ·rename_i hx
      rw[hx] at ht;simp[vA] at ht
     ·exact hk.elim
    ·rename_i hh;simp at hh
    ·exact(vg (fun y hy=>⟨hy,fun id es he=>by rw[dj.1];exact he⟩) hk)
theorem swapT{i j:Nat}{p o:Oper}{C:St→Prop}{st:St}(hp:ops[i]?=some p)(ho:ops[j]?=some o)(hs:pV E.P ops p o=true)(h:fg E ops i (fg E ops j C) st):fg E ops j (fg E ops i C) st:=by
 unfold pV at hs
 simp only[Bool.and_eq_true] at hs
 obtain⟨⟨⟨⟨hl,hd⟩,hst⟩,hpo⟩,hop⟩:=hs
 have hpo1:∀t∈Oper.looksAt ops o,p.dst≠some t:=fun t ht e=>by
  rw[e] at hpo
  simp only[Bool.and_eq_true,Bool.not_eq_true'] at hpo
  have:=hpo.1
  simp[ht] at this
 have hpo2:∀t,p.dst=some t→o.dst≠some t:=fun t e1 e2=>by
  rw[e1] at hpo
  simp only[Bool.and_eq_true] at hpo
  have:=hpo.2
  simp[e2] at this
 have hop1:∀t∈Oper.looksAt ops p,o.dst≠some t:=fun t ht e=>by
  rw[e] at hop
  simp[ht] at hop
 have htp:∀{C:St→Prop} {s:St},bH E ops i C s→fg E ops i C s:=fun h=>⟨by rw[hp];exact Zd hl,h⟩
 have h:=h.2
 have h1:∃y,fg E ops j C (st.put p.dst y)∧
  (∀(C:St→Prop) (t:St),(∀x∈p.op.operands,st.ev x=t.ev x)→eE ops p t=eE ops p st→(ju p.op=true→iG st t)→C (t.put p.dst y)→bH E ops i C t):=by
  unfold bH at h
  rw[hp] at h
  simp only at h
  obtain⟨q,hq,h2,h3⟩:=h
  cases q with
  |true=>
   have h2:=(pt hl).1 (h2 rfl)
   obtain⟨y,ha,hb⟩:=qx hd _ h2
   refine⟨y,ha,fun C t e1 e2 e3 hC=>?_⟩
   unfold bH
   rw[hp]
   refine⟨true,by rw[e2];exact hq,fun _=>(pt hl).2 ?_,fun hq=>by simp at hq⟩
   exact sJ e1 e3 (hb (fun z=>C (t.put p.dst z)) hC)
  |false=>
   refine⟨.v undef,h3 rfl,fun C t e1 e2 e3 hC=>?_⟩
   unfold bH
   rw[hp]
   exact⟨false,by rw[e2];exact hq,fun hq=>by simp at hq,fun _=>hC⟩
 obtain⟨y,h2,key⟩:=h1
 have hwp:∀{t:St} {own:List (Option (List AV))} {tk:List Nat} {rv:Option (List (Tmp×Nat))} {z:AV},t=St.put { st with own:=own,tk:=tk,bR:=rv } o.dst z→eE ops p t=eE ops p st:=fun{t own tk rv z} e=>by
  rw[e,l8 hop1];rfl
 have hevp:∀{t:St} {own:List (Option (List AV))} {tk:List Nat} {rv:Option (List (Tmp×Nat))} {z:AV},t=St.put { st with own:=own,tk:=tk,bR:=rv } o.dst z→∀x∈p.op.operands,st.ev x=t.ev x:=fun{t own tk rv z} e x hx=>by
  rw[e,nD (fun u hu=>hop1 u (nQ (hu ▸ hx)))]
  cases x<;>rfl
 obtain⟨ht,h2⟩:=h2
 rw[ho] at ht
 have ht':gH st (some o):=by rwa[Ze hpo1] at ht
 refine⟨by rw[ho];exact ht',?_⟩
 unfold bH at h2 ⊢
 rw[ho] at h2 ⊢
 simp only at h2 ⊢
 obtain⟨q,hq,h3,h4⟩:=h2
 rw[l8 hpo1] at hq
 refine⟨q,hq,fun e=>?_,fun e=>?_⟩
 ·have h5:eh E o (st.put p.dst y) (fun s'=>C s'∧(ju p.op=true→iG (st.put p.dst y) s')):=by
   cases hset:tq o.op with
   |false=>exact oU (jV ht hset (h3 e)) fun s' hs'=>⟨hs'.1,fun _=>hs'.2⟩
   |true=>exact oU (h3 e) fun s' hs'=>⟨hs',fun hload=>by simp[hset,hload] at hst⟩
  refine oT (t:=st) (fun x hx=>nD (fun u hu=>hpo1 u (nQ (hu ▸ hx)))) dj.1 dj.2.1 dj.2.2.1 dj.2.2.2 h5 (fun s' t' hc ha=>?_)
  obtain⟨z,e1,e2⟩:=ha.at'
  rw[vS] at e1
  have hC:C (t'.put p.dst y):=by
   rw[e2,←put_comm (fun t h1 h2=>hpo2 t h1 h2),←e1]
   exact hc.1
  exact htp (key C t' (hevp e2) (hwp e2) (fun hload=>by
   have:=hc.2 hload
   intro id es he
   rw[ha.own]
   exact this id es (by rw[dj.1];exact he)) hC)
 ·have h4:=h4 e
  rw[put_comm (fun t h1 h2=>hpo2 t h1 h2)] at h4
  have e2:st.put o.dst (.v undef)=St.put { st with own:=st.own,tk:=st.tk,bR:=st.bR } o.dst (.v undef):=rfl
  exact htp (key C (st.put o.dst (.v undef)) (hevp e2) (hwp e2) (fun _ id es he=>by rw[dj.1];exact he) h4)
theorem OV(hv:gy ops anc=true){L:Array Bool}(hw:jK anc L){p o:Nat}(hf:nG E.P ops anc L p=true)(hp:p∈Region.ready .any ops L)(ho:o∈Region.ready .any ops L)(hne:o≠p):
 ∃x y,ops[p]?=some x∧ops[o]?=some y∧pV E.P ops x y=true:=by
 obtain⟨hpl,x,hx,_⟩:=mem_ready.1 hp
 obtain⟨hol,y,hy,_⟩:=mem_ready.1 ho
 refine⟨x,y,hx,hy,?_⟩
 unfold nG at hf
 simp only[hx,List.all_eq_true,List.mem_range,Bool.or_eq_true,beq_iff_eq] at hf
 have hlt:o<ops.size:=(Array.getElem?_eq_some_iff.1 hy).1
 have:=hf o hlt
 rcases this with((h|h)|h)|h
 ·exact absurd h hne
 ·rw[hol] at h;simp at h
 ·have:=r5 hv hw ho p (by simpa using h)
  have h2:L.getD p true=true:=by
   simp only[Array.getD_eq_getD_getElem?] at this ⊢
   cases hh:L[p]? with
   |none=>simp
   |some b=>simpa[hh] using this
  rw[hpl] at h2;simp at h2
 ·simpa[hy] using h
theorem OU{L:Array Bool}{p o:Nat}(hf:nG E.P ops anc L p=true):nG E.P ops anc (L.setIfInBounds o true) p=true:=by
 unfold nG at *
 split at hf
 ·simp at hf
 ·rename_i x hx
  rw[List.all_eq_true] at *
  intro q hq
  have:=hf q hq
  simp only[Bool.or_eq_true] at this ⊢
  rcases this with((h|h)|h)|h
  ·exact .inl (.inl (.inl h))
  ·refine .inl (.inl (.inr ?_))
   by_cases e:o=q
   ·subst e
    simp only[Array.getD_eq_getD_getElem?] at h ⊢
    rw[Array.getElem?_setIfInBounds,if_pos rfl]
    split<;>simp
   ·rwa[getD_set_ne true e]
  ·exact .inl (.inr h)
  ·exact .inr h
theorem Em{i:Nat}{p o:Oper}{st:St}(hp:ops[i]?=some p)(hs:pV E.P ops p o=true)(h:fg E ops i (fun _=>False) st):False:=by
 have h:=h.2
 rw[lv hp] at h
 obtain⟨q,h1,h2,h3⟩:=h
 cases q with
 |false=>exact h3 rfl
 |true=>
  have h2:=h2 rfl
  unfold pV at hs
  simp only[Bool.and_eq_true] at hs
  obtain⟨y,hy,_⟩:=qx hs.1.1.1.2 _ ((pt hs.1.1.1.1).1 h2)
  exact hy
theorem Ci(hv:gy ops anc=true){p:Nat}:∀(n:Nat) (L:Array Bool) (st:St),jK anc L→nG E.P ops anc L p=true→p∈Region.ready .any ops L→
 fg E ops p (j8 E ops K n (L.setIfInBounds p true)) st→j8 E ops K (n+1) L st
 |n,L,st,hw,hf,hp,h=>by
  refine⟨fun e=>(by rw[e] at hp;simp at hp),fun o ho=>?_⟩
  by_cases hne:o=p
  ·subst hne;exact h
  ·obtain⟨x,y,hx,hy,hs⟩:=OV (E:=E) hv hw hf hp ho hne
   have ho':=ta ho hne (o:=p)
   cases n with
   |zero=>
    exfalso
    have:∀st',j8 E ops K 0 (L.setIfInBounds p true) st'→False:=fun st' h'=>by
     have:=h'.1
     rw[this] at ho';simp at ho'
    exact Em hx hs (h.mono (D:=fun _=>False) this)
   |succ m=>
    have h2:fg E ops p (fg E ops o (j8 E ops K m ((L.setIfInBounds p true).setIfInBounds o true))) st:=h.mono fun s hs'=>hs'.2 o ho'
    have h3:=swapT hx hy hs h2
    refine h3.mono fun s hs'=>?_
    rw[set_comm] at hs'
    exact Ci hv m _ s (hw.add hv ho) (OU hf) (ta hp (fun e=>hne e.symm)) hs'
theorem q5(hv:gy ops anc=true):∀(x:cK) (b:Bool) (L:Array Bool) (n:Nat) (st:St),jW E.P ops anc b x L n=true→jK anc L→fN E ops K x st→
 (b=true→j8 E ops K n L st)∧(b=false→∀i∈x.alts,∃m,n=m+1∧fg E ops i (j8 E ops K m (L.setIfInBounds i true)) st)
 |.done,b,L,n,st,h,hw,ha=>by
  simp only[jW,Bool.and_eq_true,List.isEmpty_iff] at h
  refine⟨fun _=>?_,fun hb=>by rw[hb] at h;simp at h⟩
  cases n with
  |zero=>exact⟨h.2,ha⟩
  |succ n=>exact⟨fun _=>ha,fun i hi=>by rw[h.2] at hi;simp at hi⟩
 |.take i p,b,L,n,st,h,hw,ha=>by
  simp only[jW,Bool.and_eq_true] at h
  refine⟨fun _=>?_,fun hb=>by rw[hb] at h;simp at h⟩
  cases n with
  |zero=>simp at h
  |succ n=>
   simp only[Bool.and_eq_true] at h
   obtain⟨_,⟨h1,h2⟩,h3⟩:=h
   have h1:i∈Region.ready .any ops L:=by simpa using h1
   refine Ci hv n L st hw h2 h1 ?_
   exact fg.mono ha fun s hs=>(q5 hv p true _ n s h3 (hw.add hv h1) hs).1 rfl
 |.fork p,b,L,n,st,h,hw,ha=>by
  simp only[jW,Bool.and_eq_true,beq_iff_eq,Bool.not_eq_true',List.isEmpty_eq_false_iff] at h
  obtain⟨⟨⟨hb,h1⟩,h2⟩,h3⟩:=h
  refine⟨fun _=>?_,fun hb'=>by rw[hb'] at hb;simp at hb⟩
  have:=(q5 hv p false L n st h3 hw ha).2 rfl
  obtain⟨i0,hi0⟩:=List.exists_mem_of_ne_nil _ h2
  obtain⟨n',rfl,_⟩:=this i0 hi0
  refine⟨fun e=>by rw[h1,e] at hi0;simp at hi0,fun i hi=>?_⟩
  obtain⟨m,e,hm⟩:=this i (by rw[h1];exact hi)
  have:m=n':=by omega
  subst this
  exact hm
 |.alt i p rest,b,L,n,st,h,hw,ha=>by
  simp only[jW,Bool.and_eq_true,Bool.not_eq_true'] at h
  refine⟨fun hb=>by rw[hb] at h;simp at h,fun _=>?_⟩
  cases n with
  |zero=>simp at h
  |succ n=>
   simp only[Bool.and_eq_true] at h
   obtain⟨_,⟨h1,h2⟩,h3⟩:=h
   have h1:i∈Region.ready .any ops L:=by simpa using h1
   intro j hj
   simp only[cK.alts,List.mem_cons] at hj
   rcases hj with rfl|hj
   ·exact⟨n,rfl,fg.mono ha.1 fun s hs=>(q5 hv p true _ n s h2 (hw.add hv h1) hs).1 rfl⟩
   ·exact(q5 hv rest false L (n+1) st h3 hw ha.2).2 rfl j hj
 |.ends,b,L,n,st,h,hw,ha=>by
  simp only[jW,Bool.not_eq_true'] at h
  exact⟨fun hb=>by rw[hb] at h;simp at h,fun _ i hi=>by simp[cK.alts] at hi⟩
theorem aa.rf{id:Nat}{l:List Oper}{Q:Exit→St→Prop}{st:St}(x:cK)(anc:List (List Nat))(ds:List Tmp)(hm:E.P.follows .mixedOrders=true)
 (hx:(gy l.toArray anc&&jW E.P l.toArray anc true x (Array.replicate l.toArray.size false) l.toArray.size)=true) (h:fN E l.toArray (lh (Q .normal)) x (st.ky ds)):aa E (.region id l.toArray true) Q st:=fun w0 im0 cx a w h0 hG r=>by
 simp only[Bool.and_eq_true] at hx
 have r':Rel w0 im0 cx st a w.drew:=⟨r.defers,r.size,r.tmps,r.below.drew,r.c8,r.dp,r.ck,r.bS,fun i g k es h1 h2=>let h3:=r.own i g k es h1 h2;⟨h3.new,h3.im,h3.aZ⟩,r.cH,r.tail,fun t T b h1 h2=>let h3:=r.tok t T b h1 h2;⟨h3.new,h3.room,h3.im,h3.aZ⟩,r.apart,r.dv,r.up,r.hole⟩
 have r2:=r'.Bt ds.length (l:=iO ds st.own.length) (fun d i hmem=>(nX hmem).2)
 refine wp_region_any hm (rR h0 hG (K:=lh (Q .normal)) (fun a' w' hh=>?_) _ _ (st.ky ds) _ a _ r2 ?_)
 ·obtain⟨c',st',r3,hk⟩:=hh
  exact⟨c',{ st' with bR:=none },⟨r3.defers,r3.size,r3.tmps,r3.below,r3.c8,r3.dp,r3.ck,r3.bS,r3.own,r3.cH,r3.tail,r3.tok,r3.apart,r3.dv,r3.up,fun l d i e=>by cases e⟩,hk⟩
 ·refine((q5 hx.1 x true _ _ _ hx.2 ?_ h).1 rfl).drop
  intro m hm
  exfalso
  simp only[Array.getD_eq_getD_getElem?,Array.getElem?_replicate] at hm
  split at hm<;>simp at hm
@[go_sem] theorem ab4{st:St}:fN E ops K .done st=K st:=rfl
@[go_sem] theorem ab7{st:St}{i:Nat}{p:cK}:fN E ops K (.take i p) st=(gH st ops[i]?∧cD E ops (ops[i]?).toList st (fN E ops K p)):=by
 show(_∧bH E ops i (fN E ops K p) st)=_
 rw[ql]
@[go_sem] theorem ab6{st:St}{p:cK}:fN E ops K (.fork p) st=fN E ops K p st:=rfl
@[go_sem] theorem ab3{st:St}{i:Nat}{p r:cK}:fN E ops K (.alt i p r) st=((gH st ops[i]?∧cD E ops (ops[i]?).toList st (fN E ops K p))∧fN E ops K r st):=by
 show((_∧bH E ops i (fN E ops K p) st)∧_)=_
 rw[ql]
@[go_sem] theorem ab5{st:St}:fN E ops K .ends st=True:=rfl
end
attribute [go_sem] gH vA
end Go.az
namespace Go.az
open Go Go.RowKit
def qi(E:Env)(o:Oper)(C:St→Prop)(st:St):Prop:=o.guard=none∧
 ((∃t e k n,o.op= .buildSlice t 0 #[]∧cL E.P t=some (e,k,n)∧C (St.put { st with own:=st.own++[some []] } o.dst (.mu st.own.length k 0 0 0)))∨
  ∃t tx x y e k n id xs,o.op= .call ⟨.builtin .append,#[x,y],#[t,tx]⟩∧er E.P tx=true∧cL E.P t=some (e,k,n)∧st.ev x= .mu id k 0 0 0∧fB (st.ev y) k=some xs∧st.own[id]?=some (some [])∧xs.length≤4611686018427387904∧xs.length*n≤140737488355328∧
   ∀m,C (St.put { st with own:=st.own.set id none++[some (xs++spare k m)] } o.dst (.mu st.own.length k 0 xs.length (xs.length+m))))
def lg(E:Env)(ops:Array Oper)(ms:List Nat)(i:Nat)(C:St→Prop)(st:St):Prop:=if ms.contains i=true then ∃o,ops[i]?=some o∧qi E o C st else gH st ops[i]?∧bH E ops i C st
def gg(E:Env)(ops:Array Oper)(ms:List Nat)(K:St→Prop):cK→St→Prop
 |.done,st=>K st
 |.take i p,st=>lg E ops ms i (gg E ops ms K p) st
 |.fork p,st=>gg E ops ms K p st
 |.alt i p rest,st=>lg E ops ms i (gg E ops ms K p) st∧gg E ops ms K rest st
 |.ends,_=>True
section
variable{E:Env}{ops:Array Oper}{ms:List Nat}{K:St→Prop}{anc:List (List Nat)}
theorem qi.mono{o:Oper}{C D:St→Prop}{st:St}(h:qi E o C st)(hk:∀s,C s→D s):qi E o D st:=by
 obtain⟨hg,⟨t,e,k,n,ho,ha,hc⟩|⟨t,tx,x,y,e,k,n,id,xs,ho,h1,h2,h3,h4,h5,h6,h7,hc⟩⟩:=h
 ·exact⟨hg,.inl ⟨t,e,k,n,ho,ha,hk _ hc⟩⟩
 ·exact⟨hg,.inr ⟨t,tx,x,y,e,k,n,id,xs,ho,h1,h2,h3,h4,h5,h6,h7,fun m=>hk _ (hc m)⟩⟩
theorem lg.mono{i:Nat}{C D:St→Prop}{st:St}(hk:lg E ops ms i C st)(h:∀s,C s→D s):lg E ops ms i D st:=by
 unfold lg at *
 split
 ·rename_i hi;rw[if_pos hi] at hk;obtain⟨o,h1,h2⟩:=hk;exact⟨o,h1,h2.mono h⟩
 ·rename_i hi;rw[if_neg hi] at hk;exact⟨hk.1,hk.2.mono h⟩
@[go_sem] theorem abZ{st:St}:gg E ops ms K .done st=K st:=rfl
def nd(E:Env)(o:Option Oper)(C:St→Prop)(st:St):Prop:=match o with
 |some o=>qi E o C st
 |none=>False
theorem xz{i:Nat}{C:St→Prop}{st:St}:lg E ops ms i C st=if ms.contains i=true then nd E (ops[i]?) C st else(gH st ops[i]?∧cD E ops (ops[i]?).toList st C):=by
 unfold lg
 split
 ·cases ops[i]? with
  |none=>simp[nd]
  |some o=>simp[nd]
 ·rw[ql]
@[go_sem] theorem ab2{st:St}{i:Nat}{p:cK}:gg E ops ms K (.take i p) st=if ms.contains i=true then nd E (ops[i]?) (gg E ops ms K p) st else(gH st ops[i]?∧cD E ops (ops[i]?).toList st (gg E ops ms K p)):=xz
@[go_sem] theorem ab1{st:St}{p:cK}:gg E ops ms K (.fork p) st=gg E ops ms K p st:=rfl
@[go_sem] theorem abY{st:St}{i:Nat}{p r:cK}:gg E ops ms K (.alt i p r) st=((if ms.contains i=true then nd E (ops[i]?) (gg E ops ms K p) st else(gH st ops[i]?∧cD E ops (ops[i]?).toList st (gg E ops ms K p)))∧gg E ops ms K r st):=by
 show(lg E ops ms i (gg E ops ms K p) st∧_)=_
 rw[xz]
@[go_sem] theorem ab0{st:St}:gg E ops ms K .ends st=True:=rfl
def tN(x:AV)(k n:Nat)(src:Option (List AV))(st:St)(C:St→AV→Prop):Prop:=match x with
 |.mu id q off len cap=>q=k∧off=0∧len=0∧cap=0∧aQ src fun xs=>xs.length≤4611686018427387904∧xs.length*n≤140737488355328∧lf st.own[id]? fun l=>l=[]∧
   ∀m,C { st with own:=st.own.set id none++[some (xs++spare k m)] } (.mu st.own.length k 0 xs.length (xs.length+m))
 |_=>False
@[go_sem] theorem acn{d:Option Tmp}{t ty:TypeId}{pos:String}{after:Array Edge}{C:St→Prop}{st:St}:nd E (some ⟨d,.buildSlice t 0 #[],ty,pos,after,none⟩) C st=aQ (cL E.P t) fun q=>C (St.put { st with own:=st.own++[some []] } d (.mu st.own.length q.2.1 0 0 0)):=by
 refine propext ⟨?_,?_⟩
 ·rintro⟨_,⟨t',e,k,n,ho,ha,hc⟩|⟨_,_,_,_,_,_,_,_,_,ho,_⟩⟩
  ·cases ho;exact⟨_,ha,hc⟩
  ·cases ho
 ·rintro⟨⟨e,k,n⟩,ha,hc⟩
  exact⟨rfl,.inl ⟨t,e,k,n,rfl,ha,hc⟩⟩
@[go_sem] theorem acm{d:Option Tmp}{t tx ty:TypeId}{x y:Operand}{pos:String}{after:Array Edge}{C:St→Prop}{st:St}:nd E (some ⟨d,.call ⟨.builtin .append,#[x,y],#[t,tx]⟩,ty,pos,after,none⟩) C st =
   (er E.P tx=true∧aQ (cL E.P t) fun q=>tN (st.ev x) q.2.1 q.2.2 (fB (st.ev y) q.2.1) st fun st' z=>C (st'.put d z)):=by
 refine propext ⟨?_,?_⟩
 ·rintro⟨_,⟨_,_,_,_,ho,_⟩|⟨t',tx',x',y',e,k,n,id,xs,ho,h1,h2,h3,h4,h5,h6,h7,hc⟩⟩
  ·cases ho
  ·cases ho
   refine⟨h1,_,h2,?_⟩
   rw[h3]
   exact⟨rfl,rfl,rfl,rfl,_,h4,h6,h7,_,h5,rfl,hc⟩
 ·rintro⟨h1,⟨e,k,n⟩,h2,h3⟩
  unfold tN at h3
  split at h3
  ·rename_i id q off len cap hx
   obtain⟨rfl,rfl,rfl,rfl,xs,h4,h6,h7,l,h5,rfl,hc⟩:=h3
   exact⟨rfl,.inr ⟨t,tx,x,y,e,_,n,id,xs,rfl,h1,h2,hx,h4,h5,h6,h7,hc⟩⟩
  ·exact h3.elim
end
attribute [go_sem] tN
end Go.az
namespace Go.az
open Go Go.RowKit
structure Cut(p:Prop):Prop where
 out:p
theorem aa.cutAt{E:Env}{Q:Exit→St→Prop}{K:St→Prop}{st:St}{x y:Code}{ι:Type}(hv:List Nat)(ps:ι→List (Nat×AV))(own:ι→List (Option (List AV)))(tk:ι→List Nat)(hK:∀s,aa E y Q s→K s)
 (rest:∀i,Cut (aa E y Q (st.at hv (ps i) (own i) (tk i)))) (h:(∀i,aa E y Q (st.at hv (ps i) (own i) (tk i)))→aa E x (jf K Q) st):aa E x (jf K Q) st:=h fun i=>(rest i).out
theorem aa.jO{E:Env}{y:Code}{Q:Exit→St→Prop}{ι:Type}{S:ι→St}(hc:∀i,aa E y Q (S i)){s:St}(h:aa E y Q s):aa E y Q s:=h
end Go.az
namespace Go.az
open Go Go.RowKit
end Go.az
namespace Go.az
open Go Go.RowKit
theorem abv{z:Array Value}{n:Nat}(h:z.toList.all (·.oneCell')=true):∀u∈(Builtin.zeroCells z n).toList,u.oneCell'=true:=by
 intro u hu
 obtain⟨i,hi,rfl⟩:=List.mem_iff_getElem.1 hu
 have hi2:i<n*z.size:=by simpa[Builtin.zeroCells] using hi
 have hz:0<z.size:=by
  rcases Nat.eq_zero_or_pos z.size with h0|h0
  ·rw[h0] at hi2;simp at hi2
  ·exact h0
 have hlt:=Nat.mod_lt i hz
 simp only[Builtin.zeroCells,Array.getElem_toList,Array.getElem_map,Array.getElem_range]
 rw[getElem!_pos z _ hlt]
 exact List.all_eq_true.1 h _ aB
theorem al.Ka{E:Env}{Q:Exit→St→Prop}{st:St}{ops:Array Oper}{l:List Oper}{t ty:TypeId}{x:Operand}{pos:String}{after:Array Edge}{e:TypeId}{k n id len cap:Nat}{A B:List AV}
 (hai:cL E.P t=some (e,k,n)) (hone:(((E.P.info? e).bind (·.zero)).map fun zv=>zv.cells.toList.all (·.oneCell'))=some true)
 (hs:st.ev x= .mu id k A.length (len+1) cap) (ho:st.own[id]?=some (some (A++B))) (hlen:len+1≤B.length)
 (h:al E ops l Q { st with own:=st.own.set id (some (A++spare k B.length)) }):al E ops (⟨none,.call ⟨.builtin .clear,#[x],#[t]⟩,ty,pos,after,none⟩::l) Q st:=by
 intro w0 im0 cx a w h0 hG r
 refine wpList_step (fun K' hK'=>?_)
 have hw:Region.wanted ⟨none,.call ⟨.builtin .clear,#[x],#[t]⟩,ty,pos,after,none⟩ (yielded ops a.tmps)=true:=rfl
 rw[if_pos hw]
 obtain⟨hu,hss,hk0,i,zv,hi,hz,hsize,hbytes,hzs⟩:=gj hai
 have hv:=r.ev x
 rw[hs] at hv
 rcases hv.cW with⟨g,hb,hcap,hve⟩|⟨hz1,_,_⟩
 rotate_left
 ·omega
 have hown:=r.own id g k _ hb ho
 obtain⟨cs,ty',lo,hi',hblk,hfr,hsz,hlv,hcell⟩:=hown.aZ
 have hoc:cu cx k (A++B) cs.toList:=⟨hlv,fun i e j x he hx=>by obtain⟨u,h1,h2⟩:=hcell i e j x he hx;exact⟨u,by simpa using h1,h2⟩⟩
 have hoc1:=hoc.take
 rw[List.length_append] at hsz
 have hesz:A.length*k≤cs.size:=by rw[Nat.add_mul] at hsz;omega
 have hol:(cs.toList.take (A.length*k)).length=A.length*k:=by have hq:cs.toList.length=cs.size:=Array.length_toList;rw[List.length_take,hq];omega
 have hfro:∀o,o<cs.toList.length→¬(lo≤o∧o<hi'):=fun o h1 h2=>by
  have h1:o<cs.size:=by simpa using h1
  rcases hfr with h|h<;>omega
 have hcs:cs=cs.toList.toArray:=by simp
 have hz1:zv.cells.toList.all (·.oneCell')=true:=by
  rw[hi] at hone;simp only[Option.bind_some,hz,Option.map_some,Option.some.injEq] at hone;exact hone
 have hnl:(Builtin.zeroCells zv.cells (len+1)).toList.length=(len+1)*k:=by rw[Array.length_toList,mZ,hzs]
 have hmul:(len+1)*k≤B.length*k:=Nat.mul_le_mul_right _ hlen
 have hfit2:A.length*k+0+(Builtin.zeroCells zv.cells (len+1)).toList.length≤cs.toList.length:=by
  have hq:cs.toList.length=cs.size:=Array.length_toList
  rw[hnl,hq,Nat.add_zero];rw[Nat.add_mul] at hsz;omega
 have hst:=lW (P:=E.P) g (A.length*k) ty' lo hi' (Builtin.zeroCells zv.cells (len+1)).toList 0 cs.toList w (by rw[←hcs];exact hblk) hfro hfit2 (abv hz1)
 rw[Nat.add_zero] at hst
 have hrun:(Builtin.clear_ #[t] ty #[a.eval x]).run E.P w= .ok (.tuple #[]) (w.setRow g (ch cs.toList (A.length*k) (Builtin.zeroCells zv.cells (len+1)).toList).toArray):=by
  rw[hve]
  have hzr:(zeroValue e).run E.P w= .ok zv w:=by simp[zeroValue,typeInfo,hi,hz]
  unfold Builtin.clear_
  simp only[List.getElem?_toArray,List.getElem?_cons_zero,Sem.run_bind,bV hu,Result.andThen_ok,hzr]
  (try simp only[fC,Nat.zero_add] at hst)
  simp[hst]
 have hcs'len:(ch cs.toList (A.length*k) (Builtin.zeroCells zv.cells (len+1)).toList).length=cs.size:=by rw[gz];simp
 have hOC:cu cx k (A++spare k B.length) (ch cs.toList (A.length*k) (Builtin.zeroCells zv.cells (len+1)).toList):=by
  have e1:ch cs.toList (A.length*k) (Builtin.zeroCells zv.cells (len+1)).toList=cs.toList.take (A.length*k)++(ch cs.toList (A.length*k) (Builtin.zeroCells zv.cells (len+1)).toList).drop (A.length*k):=by
   apply List.ext_getElem?
   intro p
   by_cases hp:p<A.length*k
   ·rw[List.getElem?_append_left (by rw[hol];exact hp),jX _ _ _ _ (by simpa using hfit2),if_neg ab,List.getElem?_take,if_pos hp]
   ·rw[List.getElem?_append_right (by rw[hol];omega),hol,List.getElem?_drop];congr 1;omega
  rw[e1]
  exact hoc1.append hol (cu.spare (by rw[List.length_drop,hcs'len];rw[Nat.add_mul] at hsz;omega))
 have hset:=r.oB (w':=w.setRow g (ch cs.toList (A.length*k) (Builtin.zeroCells zv.cells (len+1)).toList).toArray) (es':=A++spare k B.length) hb ho (fun b hne=>setRow_other w g b _ hne) (below_setRow r.below hown.new _)
  ⟨(ch cs.toList (A.length*k) (Builtin.zeroCells zv.cells (len+1)).toList).toArray,ty',lo,hi',setRow_heap w g cs _ ty' (lo,hi') hblk,by
    rcases hfr with h|h
    ·exact .inl h
    ·exact .inr (by simpa[gz] using h),by
    simp only[List.size_toArray,hcs'len,List.length_append,cY];exact hsz,hOC.1,fun i e j x he hx=>by
    obtain⟨u,h1,h2⟩:=hOC.2 i e j x he hx
    exact⟨u,by simpa using h1,h2⟩⟩
 refine eI (w':=_) (v:= .tuple #[]) ?_ (hK' _ _ (h w0 im0 _ _ _ h0 hG (hset.put none (.base (.v _)))))
 simp only[execOp,resolve,Sem.run_bind,Sem.run_pure,Result.andThen_ok,invoke,builtin,List.map_toArray,List.map_cons,List.map_nil,hrun]
theorem al.j0{E:Env}{Q:Exit→St→Prop}{st:St}{ops:Array Oper}{rest:List Oper}{dst:Option Tmp}{t ty:TypeId}{x lo:Operand}{pos:String}{after:Array Edge}{e:TypeId}{k id off len cap l:Nat}
 (hu:E.P.underlying t=some (.slice e)) (hsz:bf E.P e=some k) (hs:st.ev x= .mu id k off len cap) (hl:st.ev lo=i64 (l:Int)) (h1:l≤len) (h2:l<cap) (h0:0<len)
 (h:al E ops rest Q (st.put dst (.mu id k (off+l) (len-l) (cap-l)))):al E ops (⟨dst,.slice t x (some lo) none none,ty,pos,after,none⟩::rest) Q st:=by
 intro w0 im0 cx a w h0' hG r
 refine wpList_step (fun K' hK'=>?_)
 have hw:Region.wanted ⟨dst,.slice t x (some lo) none none,ty,pos,after,none⟩ (yielded ops a.tmps)=true:=rfl
 rw[if_pos hw]
 have hv:=r.ev x
 rw[hs] at hv
 have hlv:=r.ev lo
 rw[hl] at hlv
 have hlo:=hlv.bc
 rcases hv.cW with⟨g,hb,hcap,hve⟩|⟨hz,_,_⟩
 rotate_left
 ·omega
 have hbr:=nu (P:=E.P) (w:=w) (c:=cx) (isS:=true) (len:=len) (cap:=cap) (lo:=some (i64 (l:Int))) (hi:=none) (vl:=some (a.eval lo)) (vh:=none) (l:=(l:Int)) (h:=(len:Int))
  (fun y hy=>by cases hy;exact⟨_,rfl,hlv⟩) (fun hy=>by cases hy) (fun y hy=>by cases hy) (fun _=>rfl) rfl rfl ab ab ab hcap
 have hrun:(Instr.sliceAt t (a.eval x) (some (a.eval lo)) none none).run E.P w= .ok (.slice (some ⟨g,(off+l)*k,none⟩) (len-l) (cap-l)) w:=by
  rw[hve]
  simp only[Instr.sliceAt,Sem.run_bind,bV hu,Result.andThen_ok,Instr.slice,hbr,dq hsz,Sem.run_pure]
  have hne:¬cap=l:=by omega
  simp[hne,Addr.add,Nat.add_mul]
 refine eI (w':=w) (v:= .slice (some ⟨g,(off+l)*k,none⟩) (len-l) (cap-l)) ?_ (hK' _ _ (h w0 im0 _ _ _ h0' hG (r.put dst (.mu hb ab))))
 simp only[execOp,Option.map_some,Option.map_none,Sem.run_bind,hrun,Result.andThen_ok,Sem.run_pure]
theorem fU{id:Nat}{Q:Exit→St→Prop}{s:St}:rJ id Q .ret s=Q .ret s:=rfl
theorem fQ{n:St→Prop}{Q:Exit→St→Prop}{s:St}:jf n Q .ret s=Q .ret s:=rfl
theorem ai.wP{E:Env}{f:FuncId}{args:List AV}{k n t0:Nat}{es:List AV}(h:ai E f args fun r t=>r= .sl (some t0) k es∧t=[n]):ai E f args fun r t=>r= .sl none k es∧t=[]:=
 fun w im vs h0 hg h1 h2=>(h w im vs h0 hg h1 h2).mono fun _ _ ⟨v,r,tks,im',a,b,d,e,f,g,i,j⟩=>by
  obtain⟨rfl,_⟩:=j
  exact⟨v,_,[],im',a,b,d,e,f,⟨fun i T b h=>by simp at h,fun i j T U b d h=>by simp at h⟩,.base i.fu,rfl,rfl⟩
end Go.az
end
section
namespace Go.Proofs.YthoonfpkfdjhiaaGreatDoor
open Go Go.az
theorem R5:di Tryz.prog 2=some (false,1):=by kernel_rfl
theorem Se:di Tryz.prog 3=some (false,1):=by kernel_rfl
theorem Si:di Tryz.prog 4=some (false,1):=by kernel_rfl
theorem Sl:di Tryz.prog 5=some (false,1):=by kernel_rfl
theorem Sz:di Tryz.prog 9=some (false,1):=by kernel_rfl
theorem R8:di Tryz.prog 23=some (true,8):=by kernel_rfl
theorem Sb:di Tryz.prog 25=some (true,10):=by kernel_rfl
theorem Sc:di Tryz.prog 27=some (true,6):=by kernel_rfl
theorem Sd:di Tryz.prog 29=some (true,29):=by kernel_rfl
theorem Sg:di Tryz.prog 30=some (false,1):=by kernel_rfl
theorem Sj:di Tryz.prog 47=some (true,4):=by kernel_rfl
theorem Sk:di Tryz.prog 49=some (true,4):=by kernel_rfl
theorem Sm:di Tryz.prog 51=some (true,6):=by kernel_rfl
theorem Sn:di Tryz.prog 52=some (false,1):=by kernel_rfl
theorem Sp:di Tryz.prog 53=some (false,1):=by kernel_rfl
theorem Ss:di Tryz.prog 55=some (true,5):=by kernel_rfl
theorem Su:di Tryz.prog 57=some (true,13):=by kernel_rfl
theorem Sv:di Tryz.prog 68=some (true,2):=by kernel_rfl
theorem Sw:di Tryz.prog 78=some (true,18):=by kernel_rfl
theorem Sx:di Tryz.prog 80=some (false,1):=by kernel_rfl
theorem Sy:di Tryz.prog 83=some (true,2):=by kernel_rfl
theorem RX:di Tryz.prog 101=some (false,1):=by kernel_rfl
theorem RY:di Tryz.prog 102=some (false,1):=by kernel_rfl
theorem RZ:di Tryz.prog 103=some (false,1):=by kernel_rfl
theorem R0:di Tryz.prog 105=some (true,5):=by kernel_rfl
theorem R1:di Tryz.prog 107=some (true,8):=by kernel_rfl
theorem R2:di Tryz.prog 110=some (false,1):=by kernel_rfl
theorem R3:di Tryz.prog 146=some (true,9):=by kernel_rfl
theorem R4:di Tryz.prog 165=some (true,4):=by kernel_rfl
theorem R6:di Tryz.prog 203=some (false,1):=by kernel_rfl
theorem R7:di Tryz.prog 223=some (false,1):=by kernel_rfl
theorem Sa:di Tryz.prog 238=some (true,2):=by kernel_rfl
theorem Sh:di Tryz.prog 321=some (false,1):=by kernel_rfl
theorem MC:fieldInfo Tryz.prog 23 0=some (0,9,1):=by kernel_rfl
theorem MD:fieldInfo Tryz.prog 23 1=some (1,9,1):=by kernel_rfl
theorem ME:fieldInfo Tryz.prog 23 2=some (2,9,1):=by kernel_rfl
theorem MF:fieldInfo Tryz.prog 23 3=some (3,4,1):=by kernel_rfl
theorem MG:fieldInfo Tryz.prog 23 4=some (4,2,1):=by kernel_rfl
theorem MH:fieldInfo Tryz.prog 23 5=some (5,2,1):=by kernel_rfl
theorem MI:fieldInfo Tryz.prog 23 6=some (6,2,1):=by kernel_rfl
theorem MJ:fieldInfo Tryz.prog 23 7=some (7,4,1):=by kernel_rfl
theorem MM:fieldInfo Tryz.prog 25 0=some (0,9,1):=by kernel_rfl
theorem MN:fieldInfo Tryz.prog 25 1=some (1,9,1):=by kernel_rfl
theorem MO:fieldInfo Tryz.prog 25 2=some (2,9,1):=by kernel_rfl
theorem MP:fieldInfo Tryz.prog 25 3=some (3,9,1):=by kernel_rfl
theorem MQ:fieldInfo Tryz.prog 25 4=some (4,9,1):=by kernel_rfl
theorem MR:fieldInfo Tryz.prog 25 5=some (5,3,1):=by kernel_rfl
theorem MS:fieldInfo Tryz.prog 25 6=some (6,4,1):=by kernel_rfl
theorem MT:fieldInfo Tryz.prog 25 7=some (7,2,1):=by kernel_rfl
theorem MU:fieldInfo Tryz.prog 25 8=some (8,2,1):=by kernel_rfl
theorem MV:fieldInfo Tryz.prog 25 9=some (9,2,1):=by kernel_rfl
theorem M5:fieldInfo Tryz.prog 27 0=some (0,9,1):=by kernel_rfl
theorem M6:fieldInfo Tryz.prog 27 1=some (1,9,1):=by kernel_rfl
theorem M7:fieldInfo Tryz.prog 27 2=some (2,2,1):=by kernel_rfl
theorem M8:fieldInfo Tryz.prog 27 3=some (3,2,1):=by kernel_rfl
theorem M9:fieldInfo Tryz.prog 27 4=some (4,2,1):=by kernel_rfl
theorem Na:fieldInfo Tryz.prog 27 5=some (5,2,1):=by kernel_rfl
theorem Nb:fieldInfo Tryz.prog 29 0=some (0,3,1):=by kernel_rfl
theorem Nc:fieldInfo Tryz.prog 29 1=some (1,3,1):=by kernel_rfl
theorem Nd:fieldInfo Tryz.prog 29 2=some (2,23,8):=by kernel_rfl
theorem Nf:fieldInfo Tryz.prog 29 3=some (10,9,1):=by kernel_rfl
theorem Ng:fieldInfo Tryz.prog 29 4=some (11,25,10):=by kernel_rfl
theorem Nh:fieldInfo Tryz.prog 29 5=some (21,2,1):=by kernel_rfl
theorem Ni:fieldInfo Tryz.prog 29 6=some (22,4,1):=by kernel_rfl
theorem Nj:fieldInfo Tryz.prog 29 7=some (23,27,6):=by kernel_rfl
theorem Nk:fieldInfo Tryz.prog 46 0=some (0,30,1):=by kernel_rfl
theorem Nl:fieldInfo Tryz.prog 46 1=some (1,30,1):=by kernel_rfl
theorem Nn:fieldInfo Tryz.prog 49 0=some (0,47,4):=by kernel_rfl
theorem No:fieldInfo Tryz.prog 51 0=some (0,49,4):=by kernel_rfl
theorem Np:fieldInfo Tryz.prog 51 1=some (4,3,1):=by kernel_rfl
theorem Nq:fieldInfo Tryz.prog 51 2=some (5,2,1):=by kernel_rfl
theorem Nr:fieldInfo Tryz.prog 55 0=some (0,52,1):=by kernel_rfl
theorem Ns:fieldInfo Tryz.prog 55 1=some (1,53,1):=by kernel_rfl
theorem Nt:fieldInfo Tryz.prog 55 2=some (2,4,1):=by kernel_rfl
theorem Nu:fieldInfo Tryz.prog 55 3=some (3,2,1):=by kernel_rfl
theorem Nv:fieldInfo Tryz.prog 55 4=some (4,2,1):=by kernel_rfl
theorem Nw:fieldInfo Tryz.prog 57 0=some (0,3,1):=by kernel_rfl
theorem Nx:fieldInfo Tryz.prog 57 1=some (1,2,1):=by kernel_rfl
theorem Ny:fieldInfo Tryz.prog 57 2=some (2,51,6):=by kernel_rfl
theorem Nz:fieldInfo Tryz.prog 57 3=some (8,55,5):=by kernel_rfl
theorem NA:fieldInfo Tryz.prog 78 0=some (0,3,1):=by kernel_rfl
theorem NB:fieldInfo Tryz.prog 78 1=some (1,2,1):=by kernel_rfl
theorem NC:fieldInfo Tryz.prog 78 2=some (2,2,1):=by kernel_rfl
theorem ND:fieldInfo Tryz.prog 78 3=some (3,4,1):=by kernel_rfl
theorem NF:fieldInfo Tryz.prog 78 4=some (4,2,1):=by kernel_rfl
theorem NG:fieldInfo Tryz.prog 78 5=some (5,2,1):=by kernel_rfl
theorem NH:fieldInfo Tryz.prog 78 6=some (6,4,1):=by kernel_rfl
theorem NI:fieldInfo Tryz.prog 78 7=some (7,9,1):=by kernel_rfl
theorem NJ:fieldInfo Tryz.prog 78 8=some (8,25,10):=by kernel_rfl
theorem NK:fieldInfo Tryz.prog 83 0=some (0,3,1):=by kernel_rfl
theorem NL:fieldInfo Tryz.prog 83 1=some (1,9,1):=by kernel_rfl
theorem Mc:fieldInfo Tryz.prog 105 0=some (0,101,1):=by kernel_rfl
theorem Md:fieldInfo Tryz.prog 105 1=some (1,102,1):=by kernel_rfl
theorem Me:fieldInfo Tryz.prog 105 2=some (2,103,1):=by kernel_rfl
theorem Mf:fieldInfo Tryz.prog 105 3=some (3,2,1):=by kernel_rfl
theorem Mh:fieldInfo Tryz.prog 105 4=some (4,3,1):=by kernel_rfl
theorem Mi:fieldInfo Tryz.prog 107 0=some (0,105,5):=by kernel_rfl
theorem Mj:fieldInfo Tryz.prog 107 1=some (5,101,1):=by kernel_rfl
theorem Mk:fieldInfo Tryz.prog 107 2=some (6,2,1):=by kernel_rfl
theorem Ml:fieldInfo Tryz.prog 107 3=some (7,4,1):=by kernel_rfl
theorem Mm:fieldInfo Tryz.prog 146 0=some (0,9,1):=by kernel_rfl
theorem Mn:fieldInfo Tryz.prog 146 1=some (1,9,1):=by kernel_rfl
theorem Mo:fieldInfo Tryz.prog 146 2=some (2,9,1):=by kernel_rfl
theorem Mq:fieldInfo Tryz.prog 146 3=some (3,9,1):=by kernel_rfl
theorem Mr:fieldInfo Tryz.prog 146 4=some (4,4,1):=by kernel_rfl
theorem Ms:fieldInfo Tryz.prog 146 5=some (5,2,1):=by kernel_rfl
theorem Mt:fieldInfo Tryz.prog 146 6=some (6,2,1):=by kernel_rfl
theorem Mu:fieldInfo Tryz.prog 146 7=some (7,2,1):=by kernel_rfl
theorem Mv:fieldInfo Tryz.prog 146 8=some (8,4,1):=by kernel_rfl
theorem Mw:fieldInfo Tryz.prog 165 0=some (0,2,1):=by kernel_rfl
theorem Mx:fieldInfo Tryz.prog 165 1=some (1,30,1):=by kernel_rfl
theorem My:fieldInfo Tryz.prog 165 2=some (2,110,1):=by kernel_rfl
theorem Mz:fieldInfo Tryz.prog 165 3=some (3,3,1):=by kernel_rfl
theorem MA:fieldInfo Tryz.prog 238 0=some (0,2,1):=by kernel_rfl
theorem MB:fieldInfo Tryz.prog 238 1=some (1,2,1):=by kernel_rfl
theorem MK:fieldInfo Tryz.prog 259 0=some (0,256,3):=by kernel_rfl
theorem ML:fieldInfo Tryz.prog 259 1=some (3,257,256):=by kernel_rfl
theorem MW:fieldInfo Tryz.prog 278 0=some (0,2,1):=by kernel_rfl
theorem MX:fieldInfo Tryz.prog 278 1=some (1,4,1):=by kernel_rfl
theorem MY:fieldInfo Tryz.prog 278 2=some (2,4,1):=by kernel_rfl
theorem MZ:fieldInfo Tryz.prog 278 3=some (3,3,1):=by kernel_rfl
theorem Qu:fm Tryz.prog 30=some (none,5,1):=by kernel_rfl
theorem Qw:fm Tryz.prog 42=some (none,29,29):=by kernel_rfl
theorem Qx:fm Tryz.prog 43=some (none,4,1):=by kernel_rfl
theorem Qy:fm Tryz.prog 47=some (some 2,46,2):=by kernel_rfl
theorem Qz:fm Tryz.prog 52=some (none,107,8):=by kernel_rfl
theorem QA:fm Tryz.prog 53=some (none,27,6):=by kernel_rfl
theorem QB:fm Tryz.prog 60=some (none,55,5):=by kernel_rfl
theorem QC:fm Tryz.prog 68=some (some 2,3,1):=by kernel_rfl
theorem QD:fm Tryz.prog 80=some (none,83,2):=by kernel_rfl
theorem Qn:fm Tryz.prog 101=some (none,23,8):=by kernel_rfl
theorem Qo:fm Tryz.prog 102=some (none,146,9):=by kernel_rfl
theorem Qp:fm Tryz.prog 103=some (none,9,1):=by kernel_rfl
theorem Qq:fm Tryz.prog 110=some (none,30,1):=by kernel_rfl
theorem Qr:fm Tryz.prog 128=some (some 7,9,1):=by kernel_rfl
theorem Qs:fm Tryz.prog 178=some (none,2,1):=by kernel_rfl
theorem Qt:fm Tryz.prog 257=some (some 256,203,1):=by kernel_rfl
theorem Qv:fm Tryz.prog 308=some (some 5,4,1):=by kernel_rfl
theorem nk:cL Tryz.prog 30=some (5,1,1):=by kernel_rfl
theorem eL:cL Tryz.prog 52=some (107,8,128):=by kernel_rfl
theorem np:cL Tryz.prog 53=some (27,6,64):=by kernel_rfl
theorem Dt:cL Tryz.prog 60=some (55,5,72):=by kernel_rfl
theorem Du:cL Tryz.prog 80=some (83,2,24):=by kernel_rfl
theorem r7:cL Tryz.prog 101=some (23,8,88):=by kernel_rfl
theorem Dm:cL Tryz.prog 102=some (146,9,104):=by kernel_rfl
theorem Dp:cL Tryz.prog 103=some (9,1,16):=by kernel_rfl
theorem Dq:cL Tryz.prog 110=some (30,1,24):=by kernel_rfl
theorem Dr:cL Tryz.prog 178=some (2,1,8):=by kernel_rfl
theorem Ds:cL Tryz.prog 223=some (83,2,24):=by kernel_rfl
theorem Ys:bf Tryz.prog 2=some 1:=by kernel_rfl
theorem YC:bf Tryz.prog 3=some 1:=by kernel_rfl
theorem YG:bf Tryz.prog 4=some 1:=by kernel_rfl
theorem YJ:bf Tryz.prog 5=some 1:=by kernel_rfl
theorem YS:bf Tryz.prog 9=some 1:=by kernel_rfl
theorem Yv:bf Tryz.prog 23=some 8:=by kernel_rfl
theorem Yx:bf Tryz.prog 25=some 10:=by kernel_rfl
theorem Yz:bf Tryz.prog 27=some 6:=by kernel_rfl
theorem YB:bf Tryz.prog 29=some 29:=by kernel_rfl
theorem YD:bf Tryz.prog 30=some 1:=by kernel_rfl
theorem YH:bf Tryz.prog 46=some 2:=by kernel_rfl
theorem YI:bf Tryz.prog 49=some 4:=by kernel_rfl
theorem YK:bf Tryz.prog 51=some 6:=by kernel_rfl
theorem YL:bf Tryz.prog 52=some 1:=by kernel_rfl
theorem YM:bf Tryz.prog 53=some 1:=by kernel_rfl
theorem YN:bf Tryz.prog 55=some 5:=by kernel_rfl
theorem YO:bf Tryz.prog 57=some 13:=by kernel_rfl
theorem YP:bf Tryz.prog 68=some 2:=by kernel_rfl
theorem YQ:bf Tryz.prog 78=some 18:=by kernel_rfl
theorem YR:bf Tryz.prog 83=some 2:=by kernel_rfl
theorem Yk:bf Tryz.prog 101=some 1:=by kernel_rfl
theorem Yl:bf Tryz.prog 102=some 1:=by kernel_rfl
theorem Ym:bf Tryz.prog 103=some 1:=by kernel_rfl
theorem Yn:bf Tryz.prog 105=some 5:=by kernel_rfl
theorem Yo:bf Tryz.prog 107=some 8:=by kernel_rfl
theorem Yp:bf Tryz.prog 128=some 7:=by kernel_rfl
theorem Yq:bf Tryz.prog 146=some 9:=by kernel_rfl
theorem Yr:bf Tryz.prog 165=some 4:=by kernel_rfl
theorem Yt:bf Tryz.prog 203=some 1:=by kernel_rfl
theorem Yu:bf Tryz.prog 223=some 1:=by kernel_rfl
theorem Yw:bf Tryz.prog 238=some 2:=by kernel_rfl
theorem Yy:bf Tryz.prog 259=some 259:=by kernel_rfl
theorem YA:bf Tryz.prog 278=some 4:=by kernel_rfl
theorem YE:bf Tryz.prog 308=some 5:=by kernel_rfl
theorem YF:bf Tryz.prog 321=some 1:=by kernel_rfl
theorem XU:er Tryz.prog 9=true:=by kernel_rfl
theorem XR:er Tryz.prog 30=true:=by kernel_rfl
theorem j5:er Tryz.prog 52=true:=by kernel_rfl
theorem B6:er Tryz.prog 53=true:=by kernel_rfl
theorem XS:er Tryz.prog 60=true:=by kernel_rfl
theorem XT:er Tryz.prog 80=true:=by kernel_rfl
theorem wE:er Tryz.prog 101=true:=by kernel_rfl
theorem XN:er Tryz.prog 102=true:=by kernel_rfl
theorem XO:er Tryz.prog 103=true:=by kernel_rfl
theorem XP:er Tryz.prog 110=true:=by kernel_rfl
theorem XQ:er Tryz.prog 223=true:=by kernel_rfl
theorem OB:lG Tryz.prog 23=some [1,1,1,2,0,0,0,2]:=by kernel_rfl
theorem OC:lG Tryz.prog 25=some [1,1,1,1,1,0,2,0,0,0]:=by kernel_rfl
theorem OD:lG Tryz.prog 27=some [1,1,0,0,0,0]:=by kernel_rfl
theorem OE:lG Tryz.prog 29=some [0,0,1,1,1,2,0,0,0,2,1,1,1,1,1,1,0,2,0,0,0,0,2,1,1,0,0,0,0]:=by kernel_rfl
theorem OF:lG Tryz.prog 78=some [0,0,0,2,0,0,2,1,1,1,1,1,1,0,2,0,0,0]:=by kernel_rfl
theorem OA:lG Tryz.prog 146=some [1,1,1,1,2,0,0,0,2]:=by kernel_rfl
theorem FC:Tryz.prog.concrete 9=true:=by kernel_rfl
theorem Js:ar Tryz.prog 7=true:=by kernel_rfl
theorem JD:ar Tryz.prog 8=true:=by kernel_rfl
theorem JO:ar Tryz.prog 9=true:=by kernel_rfl
theorem FT:ar Tryz.prog 10=true:=by kernel_rfl
theorem F4:ar Tryz.prog 11=true:=by kernel_rfl
theorem Gf:ar Tryz.prog 12=true:=by kernel_rfl
theorem Gq:ar Tryz.prog 13=true:=by kernel_rfl
theorem GC:ar Tryz.prog 14=true:=by kernel_rfl
theorem GO:ar Tryz.prog 15=true:=by kernel_rfl
theorem GY:ar Tryz.prog 16=true:=by kernel_rfl
theorem Hh:ar Tryz.prog 17=true:=by kernel_rfl
theorem Hs:ar Tryz.prog 18=true:=by kernel_rfl
theorem HB:ar Tryz.prog 19=true:=by kernel_rfl
theorem HG:ar Tryz.prog 20=true:=by kernel_rfl
theorem HQ:ar Tryz.prog 21=true:=by kernel_rfl
theorem H0:ar Tryz.prog 22=true:=by kernel_rfl
theorem H7:ar Tryz.prog 23=true:=by kernel_rfl
theorem Ib:ar Tryz.prog 24=true:=by kernel_rfl
theorem Ii:ar Tryz.prog 25=true:=by kernel_rfl
theorem Iu:ar Tryz.prog 26=true:=by kernel_rfl
theorem IA:ar Tryz.prog 27=true:=by kernel_rfl
theorem IH:ar Tryz.prog 28=true:=by kernel_rfl
theorem IL:ar Tryz.prog 29=true:=by kernel_rfl
theorem IM:ar Tryz.prog 30=true:=by kernel_rfl
theorem IN:ar Tryz.prog 31=true:=by kernel_rfl
theorem IP:ar Tryz.prog 32=true:=by kernel_rfl
theorem IQ:ar Tryz.prog 33=true:=by kernel_rfl
theorem IS:ar Tryz.prog 34=true:=by kernel_rfl
theorem IT:ar Tryz.prog 35=true:=by kernel_rfl
theorem IU:ar Tryz.prog 36=true:=by kernel_rfl
theorem IV:ar Tryz.prog 37=true:=by kernel_rfl
theorem IW:ar Tryz.prog 38=true:=by kernel_rfl
theorem IX:ar Tryz.prog 39=true:=by kernel_rfl
theorem IY:ar Tryz.prog 40=true:=by kernel_rfl
theorem IZ:ar Tryz.prog 41=true:=by kernel_rfl
theorem I0:ar Tryz.prog 42=true:=by kernel_rfl
theorem I1:ar Tryz.prog 43=true:=by kernel_rfl
theorem I2:ar Tryz.prog 44=true:=by kernel_rfl
theorem I3:ar Tryz.prog 45=true:=by kernel_rfl
theorem I4:ar Tryz.prog 46=true:=by kernel_rfl
theorem I5:ar Tryz.prog 47=true:=by kernel_rfl
theorem I6:ar Tryz.prog 48=true:=by kernel_rfl
theorem I7:ar Tryz.prog 49=true:=by kernel_rfl
theorem I8:ar Tryz.prog 50=true:=by kernel_rfl
theorem I9:ar Tryz.prog 52=true:=by kernel_rfl
theorem Ja:ar Tryz.prog 53=true:=by kernel_rfl
theorem Jb:ar Tryz.prog 54=true:=by kernel_rfl
theorem Jc:ar Tryz.prog 55=true:=by kernel_rfl
theorem Jd:ar Tryz.prog 56=true:=by kernel_rfl
theorem Je:ar Tryz.prog 57=true:=by kernel_rfl
theorem Jf:ar Tryz.prog 58=true:=by kernel_rfl
theorem Jg:ar Tryz.prog 59=true:=by kernel_rfl
theorem Jh:ar Tryz.prog 60=true:=by kernel_rfl
theorem Ji:ar Tryz.prog 61=true:=by kernel_rfl
theorem Jj:ar Tryz.prog 62=true:=by kernel_rfl
theorem Jk:ar Tryz.prog 63=true:=by kernel_rfl
theorem Jl:ar Tryz.prog 64=true:=by kernel_rfl
theorem Jm:ar Tryz.prog 65=true:=by kernel_rfl
theorem Jo:ar Tryz.prog 66=true:=by kernel_rfl
theorem Jp:ar Tryz.prog 67=true:=by kernel_rfl
theorem Jq:ar Tryz.prog 68=true:=by kernel_rfl
theorem Jr:ar Tryz.prog 69=true:=by kernel_rfl
theorem Jt:ar Tryz.prog 70=true:=by kernel_rfl
theorem Ju:ar Tryz.prog 71=true:=by kernel_rfl
theorem Jv:ar Tryz.prog 72=true:=by kernel_rfl
theorem Jw:ar Tryz.prog 73=true:=by kernel_rfl
theorem Jx:ar Tryz.prog 74=true:=by kernel_rfl
theorem Jy:ar Tryz.prog 75=true:=by kernel_rfl
theorem Jz:ar Tryz.prog 76=true:=by kernel_rfl
theorem JA:ar Tryz.prog 77=true:=by kernel_rfl
theorem JB:ar Tryz.prog 78=true:=by kernel_rfl
theorem JC:ar Tryz.prog 79=true:=by kernel_rfl
theorem JE:ar Tryz.prog 80=true:=by kernel_rfl
theorem JF:ar Tryz.prog 81=true:=by kernel_rfl
theorem JG:ar Tryz.prog 82=true:=by kernel_rfl
theorem JH:ar Tryz.prog 83=true:=by kernel_rfl
theorem JI:ar Tryz.prog 84=true:=by kernel_rfl
theorem JJ:ar Tryz.prog 85=true:=by kernel_rfl
theorem JK:ar Tryz.prog 86=true:=by kernel_rfl
theorem JL:ar Tryz.prog 87=true:=by kernel_rfl
theorem JM:ar Tryz.prog 88=true:=by kernel_rfl
theorem JN:ar Tryz.prog 89=true:=by kernel_rfl
theorem JP:ar Tryz.prog 90=true:=by kernel_rfl
theorem JQ:ar Tryz.prog 91=true:=by kernel_rfl
theorem JR:ar Tryz.prog 92=true:=by kernel_rfl
theorem JS:ar Tryz.prog 93=true:=by kernel_rfl
theorem JT:ar Tryz.prog 94=true:=by kernel_rfl
theorem JU:ar Tryz.prog 95=true:=by kernel_rfl
theorem JV:ar Tryz.prog 96=true:=by kernel_rfl
theorem JW:ar Tryz.prog 97=true:=by kernel_rfl
theorem JX:ar Tryz.prog 98=true:=by kernel_rfl
theorem JY:ar Tryz.prog 99=true:=by kernel_rfl
theorem FU:ar Tryz.prog 100=true:=by kernel_rfl
theorem FV:ar Tryz.prog 101=true:=by kernel_rfl
theorem FW:ar Tryz.prog 102=true:=by kernel_rfl
theorem FX:ar Tryz.prog 103=true:=by kernel_rfl
theorem FY:ar Tryz.prog 104=true:=by kernel_rfl
theorem FZ:ar Tryz.prog 105=true:=by kernel_rfl
theorem F0:ar Tryz.prog 106=true:=by kernel_rfl
theorem F1:ar Tryz.prog 107=true:=by kernel_rfl
theorem F2:ar Tryz.prog 108=true:=by kernel_rfl
theorem F3:ar Tryz.prog 109=true:=by kernel_rfl
theorem F5:ar Tryz.prog 110=true:=by kernel_rfl
theorem F6:ar Tryz.prog 111=true:=by kernel_rfl
theorem F7:ar Tryz.prog 112=true:=by kernel_rfl
theorem F8:ar Tryz.prog 113=true:=by kernel_rfl
theorem F9:ar Tryz.prog 114=true:=by kernel_rfl
theorem Ga:ar Tryz.prog 115=true:=by kernel_rfl
theorem Gb:ar Tryz.prog 116=true:=by kernel_rfl
theorem Gc:ar Tryz.prog 117=true:=by kernel_rfl
theorem Gd:ar Tryz.prog 118=true:=by kernel_rfl
theorem Ge:ar Tryz.prog 119=true:=by kernel_rfl
theorem Gg:ar Tryz.prog 120=true:=by kernel_rfl
theorem Gh:ar Tryz.prog 121=true:=by kernel_rfl
theorem Gi:ar Tryz.prog 122=true:=by kernel_rfl
theorem Gj:ar Tryz.prog 124=true:=by kernel_rfl
theorem Gk:ar Tryz.prog 125=true:=by kernel_rfl
theorem Gl:ar Tryz.prog 126=true:=by kernel_rfl
theorem Gm:ar Tryz.prog 127=true:=by kernel_rfl
theorem Gn:ar Tryz.prog 128=true:=by kernel_rfl
theorem Gp:ar Tryz.prog 129=true:=by kernel_rfl
theorem Gr:ar Tryz.prog 130=true:=by kernel_rfl
theorem Gs:ar Tryz.prog 131=true:=by kernel_rfl
theorem Gu:ar Tryz.prog 132=true:=by kernel_rfl
theorem Gv:ar Tryz.prog 133=true:=by kernel_rfl
theorem Gw:ar Tryz.prog 134=true:=by kernel_rfl
theorem Gx:ar Tryz.prog 135=true:=by kernel_rfl
theorem Gy:ar Tryz.prog 136=true:=by kernel_rfl
theorem Gz:ar Tryz.prog 137=true:=by kernel_rfl
theorem GA:ar Tryz.prog 138=true:=by kernel_rfl
theorem GB:ar Tryz.prog 139=true:=by kernel_rfl
theorem GD:ar Tryz.prog 140=true:=by kernel_rfl
theorem GF:ar Tryz.prog 141=true:=by kernel_rfl
theorem GG:ar Tryz.prog 142=true:=by kernel_rfl
theorem GH:ar Tryz.prog 143=true:=by kernel_rfl
theorem GI:ar Tryz.prog 144=true:=by kernel_rfl
theorem GJ:ar Tryz.prog 145=true:=by kernel_rfl
theorem GK:ar Tryz.prog 146=true:=by kernel_rfl
theorem GL:ar Tryz.prog 147=true:=by kernel_rfl
theorem GM:ar Tryz.prog 148=true:=by kernel_rfl
theorem GN:ar Tryz.prog 149=true:=by kernel_rfl
theorem GP:ar Tryz.prog 150=true:=by kernel_rfl
theorem GQ:ar Tryz.prog 151=true:=by kernel_rfl
theorem GR:ar Tryz.prog 152=true:=by kernel_rfl
theorem GS:ar Tryz.prog 153=true:=by kernel_rfl
theorem GU:ar Tryz.prog 154=true:=by kernel_rfl
theorem GV:ar Tryz.prog 157=true:=by kernel_rfl
theorem GW:ar Tryz.prog 158=true:=by kernel_rfl
theorem GX:ar Tryz.prog 159=true:=by kernel_rfl
theorem GZ:ar Tryz.prog 160=true:=by kernel_rfl
theorem G0:ar Tryz.prog 161=true:=by kernel_rfl
theorem Ha:ar Tryz.prog 163=true:=by kernel_rfl
theorem Hb:ar Tryz.prog 164=true:=by kernel_rfl
theorem Hc:ar Tryz.prog 165=true:=by kernel_rfl
theorem Hd:ar Tryz.prog 166=true:=by kernel_rfl
theorem He:ar Tryz.prog 167=true:=by kernel_rfl
theorem Hf:ar Tryz.prog 168=true:=by kernel_rfl
theorem Hg:ar Tryz.prog 169=true:=by kernel_rfl
theorem Hi:ar Tryz.prog 170=true:=by kernel_rfl
theorem Hj:ar Tryz.prog 171=true:=by kernel_rfl
theorem Hk:ar Tryz.prog 172=true:=by kernel_rfl
theorem Hl:ar Tryz.prog 173=true:=by kernel_rfl
theorem Hm:ar Tryz.prog 174=true:=by kernel_rfl
theorem Hn:ar Tryz.prog 175=true:=by kernel_rfl
theorem Ho:ar Tryz.prog 176=true:=by kernel_rfl
theorem Hp:ar Tryz.prog 177=true:=by kernel_rfl
theorem Hq:ar Tryz.prog 178=true:=by kernel_rfl
theorem Hr:ar Tryz.prog 179=true:=by kernel_rfl
theorem Ht:ar Tryz.prog 180=true:=by kernel_rfl
theorem Hu:ar Tryz.prog 181=true:=by kernel_rfl
theorem Hv:ar Tryz.prog 182=true:=by kernel_rfl
theorem Hw:ar Tryz.prog 183=true:=by kernel_rfl
theorem Hx:ar Tryz.prog 184=true:=by kernel_rfl
theorem Hy:ar Tryz.prog 185=true:=by kernel_rfl
theorem Hz:ar Tryz.prog 186=true:=by kernel_rfl
theorem HA:ar Tryz.prog 187=true:=by kernel_rfl
theorem HC:ar Tryz.prog 193=true:=by kernel_rfl
theorem HD:ar Tryz.prog 194=true:=by kernel_rfl
theorem HE:ar Tryz.prog 195=true:=by kernel_rfl
theorem HF:ar Tryz.prog 196=true:=by kernel_rfl
theorem HH:ar Tryz.prog 201=true:=by kernel_rfl
theorem HI:ar Tryz.prog 202=true:=by kernel_rfl
theorem HJ:ar Tryz.prog 203=true:=by kernel_rfl
theorem HK:ar Tryz.prog 204=true:=by kernel_rfl
theorem HL:ar Tryz.prog 205=true:=by kernel_rfl
theorem HM:ar Tryz.prog 206=true:=by kernel_rfl
theorem HN:ar Tryz.prog 207=true:=by kernel_rfl
theorem HO:ar Tryz.prog 208=true:=by kernel_rfl
theorem HP:ar Tryz.prog 209=true:=by kernel_rfl
theorem HR:ar Tryz.prog 210=true:=by kernel_rfl
theorem HS:ar Tryz.prog 211=true:=by kernel_rfl
theorem HT:ar Tryz.prog 213=true:=by kernel_rfl
theorem HU:ar Tryz.prog 214=true:=by kernel_rfl
theorem HV:ar Tryz.prog 215=true:=by kernel_rfl
theorem HW:ar Tryz.prog 216=true:=by kernel_rfl
theorem HX:ar Tryz.prog 217=true:=by kernel_rfl
theorem HY:ar Tryz.prog 218=true:=by kernel_rfl
theorem HZ:ar Tryz.prog 219=true:=by kernel_rfl
theorem H2:ar Tryz.prog 220=true:=by kernel_rfl
theorem H3:ar Tryz.prog 221=true:=by kernel_rfl
theorem H4:ar Tryz.prog 222=true:=by kernel_rfl
theorem H5:ar Tryz.prog 223=true:=by kernel_rfl
theorem H6:ar Tryz.prog 224=true:=by kernel_rfl
theorem H8:ar Tryz.prog 231=true:=by kernel_rfl
theorem H9:ar Tryz.prog 234=true:=by kernel_rfl
theorem Ia:ar Tryz.prog 235=true:=by kernel_rfl
theorem Ic:ar Tryz.prog 246=true:=by kernel_rfl
theorem Ie:ar Tryz.prog 247=true:=by kernel_rfl
theorem Ig:ar Tryz.prog 248=true:=by kernel_rfl
theorem Ih:ar Tryz.prog 249=true:=by kernel_rfl
theorem Ij:ar Tryz.prog 250=true:=by kernel_rfl
theorem Ik:ar Tryz.prog 251=true:=by kernel_rfl
theorem Il:ar Tryz.prog 252=true:=by kernel_rfl
theorem Io:ar Tryz.prog 253=true:=by kernel_rfl
theorem Ip:ar Tryz.prog 254=true:=by kernel_rfl
theorem Iq:ar Tryz.prog 255=true:=by kernel_rfl
theorem Ir:ar Tryz.prog 256=true:=by kernel_rfl
theorem Is:ar Tryz.prog 257=true:=by kernel_rfl
theorem It:ar Tryz.prog 258=true:=by kernel_rfl
theorem Iv:ar Tryz.prog 261=true:=by kernel_rfl
theorem Iw:ar Tryz.prog 262=true:=by kernel_rfl
theorem Ix:ar Tryz.prog 263=true:=by kernel_rfl
theorem Iy:ar Tryz.prog 264=true:=by kernel_rfl
theorem Iz:ar Tryz.prog 265=true:=by kernel_rfl
theorem IB:ar Tryz.prog 274=true:=by kernel_rfl
theorem IC:ar Tryz.prog 275=true:=by kernel_rfl
theorem ID:ar Tryz.prog 276=true:=by kernel_rfl
theorem IE:ar Tryz.prog 277=true:=by kernel_rfl
theorem IF:ar Tryz.prog 278=true:=by kernel_rfl
theorem IG:ar Tryz.prog 279=true:=by kernel_rfl
theorem II:ar Tryz.prog 280=true:=by kernel_rfl
theorem IJ:ar Tryz.prog 285=true:=by kernel_rfl
theorem IK:ar Tryz.prog 287=true:=by kernel_rfl
theorem ZL:cZ Tryz.prog 3=some [.v (.int .i64 0)]:=by kernel_rfl
theorem ZE:cZ Tryz.prog 23=some [.v (.string ⟨#[]⟩),.v (.string ⟨#[]⟩),.v (.string ⟨#[]⟩),.v (.bool false),.v (.int .i64 0),.v (.int .i64 0),.v (.int .i64 0),.v (.bool false)]:=by kernel_rfl
theorem ZG:cZ Tryz.prog 25=some [.v (.string ⟨#[]⟩),.v (.string ⟨#[]⟩),.v (.string ⟨#[]⟩),.v (.string ⟨#[]⟩),.v (.string ⟨#[]⟩),.v (.int .i64 0),.v (.bool false),.v (.int .i64 0),.v (.int .i64 0),.v (.int .i64 0)]:=by kernel_rfl
theorem ZI:cZ Tryz.prog 27=some [.v (.string ⟨#[]⟩),.v (.string ⟨#[]⟩),.v (.int .i64 0),.v (.int .i64 0),.v (.int .i64 0),.v (.int .i64 0)]:=by kernel_rfl
theorem ZK:cZ Tryz.prog 29=some [.v (.int .i64 0),.v (.int .i64 0),.v (.string ⟨#[]⟩),.v (.string ⟨#[]⟩),.v (.string ⟨#[]⟩),.v (.bool false),.v (.int .i64 0),.v (.int .i64 0),.v (.int .i64 0),.v (.bool false),.v (.string ⟨#[]⟩),.v (.string ⟨#[]⟩),.v (.string ⟨#[]⟩),.v (.string ⟨#[]⟩),.v (.string ⟨#[]⟩),.v (.string ⟨#[]⟩),.v (.int .i64 0),.v (.bool false),.v (.int .i64 0),.v (.int .i64 0),.v (.int .i64 0),.v (.int .i64 0),.v (.bool false),.v (.string ⟨#[]⟩),.v (.string ⟨#[]⟩),.v (.int .i64 0),.v (.int .i64 0),.v (.int .i64 0),.v (.int .i64 0)]:=by kernel_rfl
theorem ZO:cZ Tryz.prog 46=some [.aw,.aw]:=by kernel_rfl
theorem ZP:cZ Tryz.prog 49=some [.aw,.aw,.aw,.aw]:=by kernel_rfl
theorem ZQ:cZ Tryz.prog 51=some [.aw,.aw,.aw,.aw,.v (.int .i64 0),.v (.int .i64 0)]:=by kernel_rfl
theorem ZR:cZ Tryz.prog 55=some [.aw,.aw,.v (.bool false),.v (.int .i64 0),.v (.int .i64 0)]:=by kernel_rfl
theorem ZS:cZ Tryz.prog 57=some [.v (.int .i64 0),.v (.int .i64 0),.aw,.aw,.aw,.aw,.v (.int .i64 0),.v (.int .i64 0),.aw,.aw,.v (.bool false),.v (.int .i64 0),.v (.int .i64 0)]:=by kernel_rfl
theorem ZT:cZ Tryz.prog 68=some [.v (.int .i64 0),.v (.int .i64 0)]:=by kernel_rfl
theorem ZU:cZ Tryz.prog 78=some [.v (.int .i64 0),.v (.int .i64 0),.v (.int .i64 0),.v (.bool false),.v (.int .i64 0),.v (.int .i64 0),.v (.bool false),.v (.string ⟨#[]⟩),.v (.string ⟨#[]⟩),.v (.string ⟨#[]⟩),.v (.string ⟨#[]⟩),.v (.string ⟨#[]⟩),.v (.string ⟨#[]⟩),.v (.int .i64 0),.v (.bool false),.v (.int .i64 0),.v (.int .i64 0),.v (.int .i64 0)]:=by kernel_rfl
theorem ZV:cZ Tryz.prog 83=some [.v (.int .i64 0),.v (.string ⟨#[]⟩)]:=by kernel_rfl
theorem Zz:cZ Tryz.prog 105=some [.aw,.aw,.aw,.v (.int .i64 0),.v (.int .i64 0)]:=by kernel_rfl
theorem Cy:cZ Tryz.prog 107=some [.aw,.aw,.aw,.v (.int .i64 0),.v (.int .i64 0),.aw,.v (.int .i64 0),.v (.bool false)]:=by kernel_rfl
theorem ZA:cZ Tryz.prog 128=some [.v (.string ⟨#[]⟩),.v (.string ⟨#[]⟩),.v (.string ⟨#[]⟩),.v (.string ⟨#[]⟩),.v (.string ⟨#[]⟩),.v (.string ⟨#[]⟩),.v (.string ⟨#[]⟩)]:=by kernel_rfl
theorem ZB:cZ Tryz.prog 146=some [.v (.string ⟨#[]⟩),.v (.string ⟨#[]⟩),.v (.string ⟨#[]⟩),.v (.string ⟨#[]⟩),.v (.bool false),.v (.int .i64 0),.v (.int .i64 0),.v (.int .i64 0),.v (.bool false)]:=by kernel_rfl
theorem ZC:cZ Tryz.prog 165=some [.v (.int .i64 0),.aw,.aw,.v (.int .i64 0)]:=by kernel_rfl
theorem ZD:cZ Tryz.prog 223=some [.aw]:=by kernel_rfl
theorem ZF:cZ Tryz.prog 238=some [.v (.int .i64 0),.v (.int .i64 0)]:=by kernel_rfl
theorem ZH:cZ Tryz.prog 259=some [.v (.int .u32 0),.v (.int .i32 0),.v (.int .u32 0),.v (.int .u32 0),.v (.int .u32 0),.v (.int .u32 0),.v (.int .u32 0),.v (.int .u32 0),.v (.int .u32 0),.v (.int .u32 0),.v (.int .u32 0),.v (.int .u32 0),.v (.int .u32 0),.v (.int .u32 0),.v (.int .u32 0),.v (.int .u32 0),.v (.int .u32 0),.v (.int .u32 0),.v (.int .u32 0),.v (.int .u32 0),.v (.int .u32 0),.v (.int .u32 0),.v (.int .u32 0),.v (.int .u32 0),.v (.int .u32 0),.v (.int .u32 0),.v (.int .u32 0),.v (.int .u32 0),.v (.int .u32 0),.v (.int .u32 0),.v (.int .u32 0),.v (.int .u32 0),.v (.int .u32 0),.v (.int .u32 0),.v (.int .u32 0),.v (.int .u32 0),.v (.int .u32 0),.v (.int .u32 0),.v (.int .u32 0),.v (.int .u32 0),.v (.int .u32 0),.v (.int .u32 0),.v (.int .u32 0),.v (.int .u32 0),.v (.int .u32 0),.v (.int .u32 0),.v (.int .u32 0),.v (.int .u32 0),.v (.int .u32 0),.v (.int .u32 0),.v (.int .u32 0),.v (.int .u32 0),.v (.int .u32 0),.v (.int .u32 0),.v (.int .u32 0),.v (.int .u32 0),.v (.int .u32 0),.v (.int .u32 0),.v (.int .u32 0),.v (.int .u32 0),.v (.int .u32 0),.v (.int .u32 0),.v (.int .u32 0),.v (.int .u32 0),.v (.int .u32 0),.v (.int .u32 0),.v (.int .u32 0),.v (.int .u32 0),.v (.int .u32 0),.v (.int .u32 0),.v (.int .u32 0),.v (.int .u32 0),.v (.int .u32 0),.v (.int .u32 0),.v (.int .u32 0),.v (.int .u32 0),.v (.int .u32 0),.v (.int .u32 0),.v (.int .u32 0),.v (.int .u32 0),.v (.int .u32 0),.v (.int .u32 0),.v (.int .u32 0),.v (.int .u32 0),.v (.int .u32 0),.v (.int .u32 0),.v (.int .u32 0),.v (.int .u32 0),.v (.int .u32 0),.v (.int .u32 0),.v (.int .u32 0),.v (.int .u32 0),.v (.int .u32 0),.v (.int .u32 0),.v (.int .u32 0),.v (.int .u32 0),.v (.int .u32 0),.v (.int .u32 0),.v (.int .u32 0),.v (.int .u32 0),.v (.int .u32 0),.v (.int .u32 0),.v (.int .u32 0),.v (.int .u32 0),.v (.int .u32 0),.v (.int .u32 0),.v (.int .u32 0),.v (.int .u32 0),.v (.int .u32 0),.v (.int .u32 0),.v (.int .u32 0),.v (.int .u32 0),.v (.int .u32 0),.v (.int .u32 0),.v (.int .u32 0),.v (.int .u32 0),.v (.int .u32 0),.v (.int .u32 0),.v (.int .u32 0),.v (.int .u32 0),.v (.int .u32 0),.v (.int .u32 0),.v (.int .u32 0),.v (.int .u32 0),.v (.int .u32 0),.v (.int .u32 0),.v (.int .u32 0),.v (.int .u32 0),.v (.int .u32 0),.v (.int .u32 0),.v (.int .u32 0),.v (.int .u32 0),.v (.int .u32 0),.v (.int .u32 0),.v (.int .u32 0),.v (.int .u32 0),.v (.int .u32 0),.v (.int .u32 0),.v (.int .u32 0),.v (.int .u32 0),.v (.int .u32 0),.v (.int .u32 0),.v (.int .u32 0),.v (.int .u32 0),.v (.int .u32 0),.v (.int .u32 0),.v (.int .u32 0),.v (.int .u32 0),.v (.int .u32 0),.v (.int .u32 0),.v (.int .u32 0),.v (.int .u32 0),.v (.int .u32 0),.v (.int .u32 0),.v (.int .u32 0),.v (.int .u32 0),.v (.int .u32 0),.v (.int .u32 0),.v (.int .u32 0),.v (.int .u32 0),.v (.int .u32 0),.v (.int .u32 0),.v (.int .u32 0),.v (.int .u32 0),.v (.int .u32 0),.v (.int .u32 0),.v (.int .u32 0),.v (.int .u32 0),.v (.int .u32 0),.v (.int .u32 0),.v (.int .u32 0),.v (.int .u32 0),.v (.int .u32 0),.v (.int .u32 0),.v (.int .u32 0),.v (.int .u32 0),.v (.int .u32 0),.v (.int .u32 0),.v (.int .u32 0),.v (.int .u32 0),.v (.int .u32 0),.v (.int .u32 0),.v (.int .u32 0),.v (.int .u32 0),.v (.int .u32 0),.v (.int .u32 0),.v (.int .u32 0),.v (.int .u32 0),.v (.int .u32 0),.v (.int .u32 0),.v (.int .u32 0),.v (.int .u32 0),.v (.int .u32 0),.v (.int .u32 0),.v (.int .u32 0),.v (.int .u32 0),.v (.int .u32 0),.v (.int .u32 0),.v (.int .u32 0),.v (.int .u32 0),.v (.int .u32 0),.v (.int .u32 0),.v (.int .u32 0),.v (.int .u32 0),.v (.int .u32 0),.v (.int .u32 0),.v (.int .u32 0),.v (.int .u32 0),.v (.int .u32 0),.v (.int .u32 0),.v (.int .u32 0),.v (.int .u32 0),.v (.int .u32 0),.v (.int .u32 0),.v (.int .u32 0),.v (.int .u32 0),.v (.int .u32 0),.v (.int .u32 0),.v (.int .u32 0),.v (.int .u32 0),.v (.int .u32 0),.v (.int .u32 0),.v (.int .u32 0),.v (.int .u32 0),.v (.int .u32 0),.v (.int .u32 0),.v (.int .u32 0),.v (.int .u32 0),.v (.int .u32 0),.v (.int .u32 0),.v (.int .u32 0),.v (.int .u32 0),.v (.int .u32 0),.v (.int .u32 0),.v (.int .u32 0),.v (.int .u32 0),.v (.int .u32 0),.v (.int .u32 0),.v (.int .u32 0),.v (.int .u32 0),.v (.int .u32 0),.v (.int .u32 0),.v (.int .u32 0),.v (.int .u32 0),.v (.int .u32 0),.v (.int .u32 0),.v (.int .u32 0),.v (.int .u32 0),.v (.int .u32 0),.v (.int .u32 0),.v (.int .u32 0),.v (.int .u32 0),.v (.int .u32 0),.v (.int .u32 0),.v (.int .u32 0),.v (.int .u32 0),.v (.int .u32 0),.v (.int .u32 0),.v (.int .u32 0)]:=by kernel_rfl
theorem ZJ:cZ Tryz.prog 278=some [.v (.int .i64 0),.v (.bool false),.v (.bool false),.v (.int .i64 0)]:=by kernel_rfl
theorem ZM:cZ Tryz.prog 308=some [.v (.bool false),.v (.bool false),.v (.bool false),.v (.bool false),.v (.bool false)]:=by kernel_rfl
theorem ZN:cZ Tryz.prog 321=some [.v (.int .u64 0)]:=by kernel_rfl
theorem E6:fi Tryz.prog 23=some [(0,1),(1,1),(2,1),(3,1),(4,1),(5,1),(6,1),(7,1)]:=by kernel_rfl
theorem E8:fi Tryz.prog 25=some [(0,1),(1,1),(2,1),(3,1),(4,1),(5,1),(6,1),(7,1),(8,1),(9,1)]:=by kernel_rfl
theorem E9:fi Tryz.prog 27=some [(0,1),(1,1),(2,1),(3,1),(4,1),(5,1)]:=by kernel_rfl
theorem Fb:fi Tryz.prog 29=some [(0,1),(1,1),(2,8),(10,1),(11,10),(21,1),(22,1),(23,6)]:=by kernel_rfl
theorem Fc:fi Tryz.prog 46=some [(0,1),(1,1)]:=by kernel_rfl
theorem Fe:fi Tryz.prog 49=some [(0,4)]:=by kernel_rfl
theorem Ff:fi Tryz.prog 51=some [(0,4),(4,1),(5,1)]:=by kernel_rfl
theorem Fg:fi Tryz.prog 55=some [(0,1),(1,1),(2,1),(3,1),(4,1)]:=by kernel_rfl
theorem Fh:fi Tryz.prog 57=some [(0,1),(1,1),(2,6),(8,5)]:=by kernel_rfl
theorem Fj:fi Tryz.prog 68=none:=by kernel_rfl
theorem EC:sd Tryz.prog 68=some 1:=by kernel_rfl
theorem Fk:fi Tryz.prog 78=some [(0,1),(1,1),(2,1),(3,1),(4,1),(5,1),(6,1),(7,1),(8,10)]:=by kernel_rfl
theorem Fl:fi Tryz.prog 83=some [(0,1),(1,1)]:=by kernel_rfl
theorem E3:fi Tryz.prog 128=none:=by kernel_rfl
theorem EB:sd Tryz.prog 128=some 1:=by kernel_rfl
theorem E4:fi Tryz.prog 146=some [(0,1),(1,1),(2,1),(3,1),(4,1),(5,1),(6,1),(7,1),(8,1)]:=by kernel_rfl
theorem E5:fi Tryz.prog 165=some [(0,1),(1,1),(2,1),(3,1)]:=by kernel_rfl
theorem E7:fi Tryz.prog 238=some [(0,1),(1,1)]:=by kernel_rfl
theorem Fa:fi Tryz.prog 278=some [(0,1),(1,1),(2,1),(3,1)]:=by kernel_rfl
theorem ud2:Tryz.prog.underlying 2=some (.int (Go.IntKind.i64)):=by kernel_rfl
theorem ud3:Tryz.prog.underlying 3=some (.int (Go.IntKind.i64)):=by kernel_rfl
theorem ud4:Tryz.prog.underlying 4=some (.bool):=by kernel_rfl
theorem ud5:Tryz.prog.underlying 5=some (.int (Go.IntKind.u8)):=by kernel_rfl
theorem ud9:Tryz.prog.underlying 9=some (.string):=by kernel_rfl
theorem aai:Tryz.prog.underlying 21=some (.int (Go.IntKind.i32)):=by kernel_rfl
theorem aan:Tryz.prog.underlying 30=some (.slice 5):=by kernel_rfl
theorem aaq:Tryz.prog.underlying 33=some (.int (Go.IntKind.i64)):=by kernel_rfl
theorem aas:Tryz.prog.underlying 42=some (.slice 29):=by kernel_rfl
theorem aat:Tryz.prog.underlying 43=some (.slice 4):=by kernel_rfl
theorem aau:Tryz.prog.underlying 44=some (.int (Go.IntKind.u16)):=by kernel_rfl
theorem aav:Tryz.prog.underlying 47=some (.array 2 46):=by kernel_rfl
theorem aax:Tryz.prog.underlying 52=some (.slice 107):=by kernel_rfl
theorem aay:Tryz.prog.underlying 53=some (.slice 27):=by kernel_rfl
theorem aaz:Tryz.prog.underlying 60=some (.slice 55):=by kernel_rfl
theorem aaA:Tryz.prog.underlying 68=some (.array 2 3):=by kernel_rfl
theorem aaB:Tryz.prog.underlying 80=some (.slice 83):=by kernel_rfl
theorem Z8:Tryz.prog.underlying 101=some (.slice 23):=by kernel_rfl
theorem Z9:Tryz.prog.underlying 102=some (.slice 146):=by kernel_rfl
theorem aaa:Tryz.prog.underlying 103=some (.slice 9):=by kernel_rfl
theorem aab:Tryz.prog.underlying 110=some (.slice 30):=by kernel_rfl
theorem aac:Tryz.prog.underlying 128=some (.array 7 9):=by kernel_rfl
theorem aad:Tryz.prog.underlying 178=some (.slice 2):=by kernel_rfl
theorem aaf:Tryz.prog.underlying 202=some (.int (Go.IntKind.u64)):=by kernel_rfl
theorem aag:Tryz.prog.underlying 203=some (.int (Go.IntKind.u32)):=by kernel_rfl
theorem aah:Tryz.prog.underlying 208=some (.int (Go.IntKind.u64)):=by kernel_rfl
theorem aaj:Tryz.prog.underlying 223=some (.slice 83):=by kernel_rfl
theorem aak:Tryz.prog.underlying 257=some (.array 256 203):=by kernel_rfl
theorem aal:Tryz.prog.underlying 291=some (.int (Go.IntKind.i64)):=by kernel_rfl
theorem aao:Tryz.prog.underlying 308=some (.array 5 4):=by kernel_rfl
theorem aap:Tryz.prog.underlying 321=some (.int (Go.IntKind.u64)):=by kernel_rfl
attribute [go_sem] R5 Se Si Sl Sz R8 Sb Sc Sd Sg Sj Sk Sm Sn Sp Ss Su Sv Sw Sx Sy RX RY RZ R0 R1 R2 R3 R4 R6 R7 Sa Sh MC MD ME MF MG MH MI MJ MM MN MO MP MQ MR MS MT MU MV M5 M6 M7 M8 M9 Na Nb Nc Nd Nf Ng Nh Ni Nj Nk Nl Nn No Np Nq Nr Ns Nt Nu Nv Nw Nx Ny Nz NA NB NC ND NF NG NH NI NJ NK NL Mc Md Me Mf Mh Mi Mj Mk Ml Mm Mn Mo Mq Mr Ms Mt Mu Mv Mw Mx My Mz MA MB MK ML MW MX MY MZ Qu Qw Qx Qy Qz QA QB QC QD Qn Qo Qp Qq Qr Qs Qt Qv nk eL np Dt Du r7 Dm Dp Dq Dr Ds Ys YC YG YJ YS Yv Yx Yz YB YD YH YI YK YL YM YN YO YP YQ YR Yk Yl Ym Yn Yo Yp Yq Yr Yt Yu Yw Yy YA YE YF XU XR j5 B6 XS XT wE XN XO XP XQ OB OC OD OE OF OA FC Js JD JO FT F4 Gf Gq GC GO GY Hh Hs HB HG HQ H0 H7 Ib Ii Iu IA IH IL IM IN IP IQ IS IT IU IV IW IX IY IZ I0 I1 I2 I3 I4 I5 I6 I7 I8 I9 Ja Jb Jc Jd Je Jf Jg Jh Ji Jj Jk Jl Jm Jo Jp Jq Jr Jt Ju Jv Jw Jx Jy Jz JA JB JC JE JF JG JH JI JJ JK JL JM JN JP JQ JR JS JT JU JV JW JX JY FU FV FW FX FY FZ F0 F1 F2 F3 F5 F6 F7 F8 F9 Ga Gb Gc Gd Ge Gg Gh Gi Gj Gk Gl Gm Gn Gp Gr Gs Gu Gv Gw Gx Gy Gz GA GB GD GF GG GH GI GJ GK GL GM GN GP GQ GR GS GU GV GW GX GZ G0 Ha Hb Hc Hd He Hf Hg Hi Hj Hk Hl Hm Hn Ho Hp Hq Hr Ht Hu Hv Hw Hx Hy Hz HA HC HD HE HF HH HI HJ HK HL HM HN HO HP HR HS HT HU HV HW HX HY HZ H2 H3 H4 H5 H6 H8 H9 Ia Ic Ie Ig Ih Ij Ik Il Io Ip Iq Ir Is It Iv Iw Ix Iy Iz IB IC ID IE IF IG II IJ IK ZL ZE ZG ZI ZK ZO ZP ZQ ZR ZS ZT ZU ZV Zz Cy ZA ZB ZC ZD ZF ZH ZJ ZM ZN E6 E8 E9 Fb Fc Fe Ff Fg Fh Fj EC Fk Fl E3 EB E4 E5 E7 Fa ud2 ud3 ud4 ud5 ud9 aai aan aaq aas aat aau aav aax aay aaz aaA aaB Z8 Z9 aaa aab aac aad aaf aag aah aaj aak aal aao aap
end Go.Proofs.YthoonfpkfdjhiaaGreatDoor
end
section
namespace Go.Fld
open Go
abbrev Bs:=List UInt8
def dP(c:UInt8):Bool:=decide (48≤c.toNat)&&decide (c.toNat≤57)
def cV(acc:Nat)(l:Bs):Nat:=l.foldl (fun a c=>a*10+(c.toNat-48)) acc
theorem nB(a:Nat):cV a []=a:=by unfold cV;rw[List.foldl_nil]
theorem mi(a:Nat)(c:UInt8)(l:Bs):cV a (c::l)=cV (a*10+(c.toNat-48)) l:=by unfold cV;rw[List.foldl_cons]
attribute [irreducible] cV
def ec(n:Int):Bool:=decide (-4611686018427387904≤n)&&decide (n≤4611686018427387904)
def ay(n:Int):Bs:=if ec n=true then Lib.itoa n else[]
def signed:Bs→Bs×Bool
 |45::r=>(r,true)
 |l=>(l,false)
def bX(l:Bs):Int×Int:=
 if 20<l.length then(0,4)
 else if(signed l).1=[]∨((signed l).1.head?=some 48∧1<l.length) then(0,3)
 else if(signed l).1.all dP=false then(0,3)
 else if 4611686018427387904<cV 0 (signed l).1 then(0,9)
 else(if(signed l).2=true then -((cV 0 (signed l).1:Nat):Int) else((cV 0 (signed l).1:Nat):Int),0)
theorem yn(l:Bs):∀(a:Nat) (m:Bs),cV a (l++m)=cV (cV a l) m:=by
 induction l with
 |nil=>intro a m;rw[List.nil_append,nB]
 |cons c l ih=>intro a m;rw[List.cons_append,mi,mi,ih]
theorem ym(l:Bs):∀(a:Nat),cV a l=a*10^l.length+cV 0 l:=by
 induction l with
 |nil=>intro a;simp[nB]
 |cons c l ih=>
  intro a
  simp only[mi,List.length_cons]
  rw[ih (a*10+_),ih (0*10+_),Nat.pow_succ]
  generalize 10^l.length=q
  generalize c.toNat-48=z
  rw[Nat.add_mul,Nat.add_mul,Nat.mul_assoc,Nat.mul_comm 10 q]
  omega
theorem KN(a:Nat)(l:Bs):a≤cV a l:=by
 rw[ym]
 have h1:1≤10^l.length:=Nat.one_le_pow _ _ aj
 generalize 10^l.length=q at *
 have:=Nat.mul_le_mul_left a h1
 generalize a*q=z at *
 omega
theorem KO{c:UInt8}{l:Bs}(h:dP c=true)(h0:c≠48):10^l.length≤cV 0 (c::l):=by
 simp only[dP,Bool.and_eq_true,decide_eq_true_eq] at h
 simp only[mi,Nat.zero_mul,Nat.zero_add]
 rw[ym]
 have h1:1≤c.toNat-48:=by
  have:c.toNat≠48:=fun e=>h0 (UInt8.toNat_inj.1 (by simpa using e))
  omega
 have:=Nat.mul_le_mul_right (10^l.length) h1
 generalize 10^l.length=q at *
 generalize (c.toNat-48)*q=z at *
 omega
theorem qy{u:Nat}(h:u<10):dP (UInt8.ofNat (48+u))=true∧(UInt8.ofNat (48+u)).toNat-48=u:=by
 have:(UInt8.ofNat (48+u)).toNat=48+u:=by simp;omega
 simp only[dP,this,Bool.and_eq_true,decide_eq_true_eq]
 omega
theorem AB{c:UInt8}(h:dP c=true):UInt8.ofNat (48+(c.toNat-48))=c:=by
 simp only[dP,Bool.and_eq_true,decide_eq_true_eq] at h
 apply UInt8.toNat_inj.1
 simp;omega
theorem mh(u:Nat):(Lib.decDigits u).all dP=true:=by
 induction u using Nat.strongRecOn with
 |_ u ih=>
  rw[Lib.decDigits]
  split
  ·rename_i h;simp only[List.all_cons,List.all_nil,Bool.and_true];exact(qy h).1
  ·rename_i h
   simp only[List.all_append,List.all_cons,List.all_nil,Bool.and_true,ih (u/10) ab,Bool.true_and]
   exact(qy (Nat.mod_lt u (by decide:0<10))).1
theorem yl(u:Nat):cV 0 (Lib.decDigits u)=u:=by
 induction u using Nat.strongRecOn with
 |_ u ih=>
  rw[Lib.decDigits]
  split
  ·rename_i h;simp only[mi,nB];rw[(qy h).2];omega
  ·rename_i h
   rw[yn,ih (u/10) ab]
   simp only[mi,nB]
   rw[(qy (Nat.mod_lt u (by decide:0<10))).2]
   omega
theorem sk(u:Nat):Lib.decDigits u≠[]:=by
 rw[Lib.decDigits];split<;>simp
theorem yj(u:Nat)(h:u≠0):(Lib.decDigits u).head?≠some 48:=by
 induction u using Nat.strongRecOn with
 |_ u ih=>
  rw[Lib.decDigits]
  split
  ·rename_i h1
   simp only[List.head?_cons,ne_eq,Option.some.injEq]
   intro e
   have:=(qy h1).2
   rw[e] at this
   simp at this;omega
  ·rename_i h1
   have h2:=sk (u/10)
   rw[List.head?_append]
   cases hh:(Lib.decDigits (u/10)).head? with
   |none=>exact absurd (List.head?_eq_none_iff.1 hh) h2
   |some x=>simp only[Option.some_or];rw[←hh];exact ih (u/10) ab ab
theorem yk:∀(n:Nat) (l:Bs),l.length=n→l.all dP=true→l≠[]→(l.head?=some 48→l.length=1)→Lib.decDigits (cV 0 l)=l:=by
 intro n
 induction n with
 |zero=>intro l hl _ hn;exact absurd (List.eq_nil_of_length_eq_zero hl) hn
 |succ n ih=>
  intro l hl hd hn h0
  obtain⟨m,c,rfl⟩:∃m c,l=m++[c]:=⟨l.dropLast,l.getLast hn,(List.dropLast_concat_getLast hn).symm⟩
  simp only[List.all_append,List.all_cons,List.all_nil,Bool.and_true,Bool.and_eq_true] at hd
  have hc:=hd.2
  have hc':c.toNat-48<10:=by simp only[dP,Bool.and_eq_true,decide_eq_true_eq] at hc;omega
  rw[yn]
  simp only[mi,nB]
  cases m with
  |nil=>
   simp only[nB,List.nil_append]
   rw[Lib.decDigits_one ab]
   simp only[Nat.zero_mul,Nat.zero_add]
   rw[AB hc]
  |cons d m=>
   simp only[List.length_append,List.length_cons,List.length_nil] at hl
   have hd0:d≠48:=by
    intro e;subst e
    have:=h0 aB;simp at this
   have h1:=ih (d::m) (by simpa using hl) hd.1 aB (by intro e;simp at e;exact absurd e hd0)
   have h2:=KO (l:=m) (by simpa using(by simpa using hd.1:_∧_).1:dP d=true) hd0
   have h3:1≤cV 0 (d::m):=Nat.le_trans (Nat.one_le_pow _ _ aj) h2
   rw[Lib.decDigits,dif_neg ab]
   have e1:(cV 0 (d::m)*10+(c.toNat-48))/10=cV 0 (d::m):=by omega
   have e2:(cV 0 (d::m)*10+(c.toNat-48))%10=c.toNat-48:=by omega
   rw[e1,e2,h1,AB hc]
theorem o6{u k:Nat}(h:u<10^k)(hk:0<k):(Lib.decDigits u).length≤k:=by
 rw[Lib.decDigits_length]
 induction k generalizing u with
 |zero=>omega
 |succ k ih=>
  by_cases hu:u<10
  ·rw[Lib.nDigits_small hu];omega
  ·rw[Lib.nDigits_big hu]
   cases k with
   |zero=>simp at h;omega
   |succ k=>have:=ih (u:=u/10) (by rw[Nat.pow_succ] at h;omega) ab;omega
theorem Xt(u:Nat):signed (Lib.decDigits u)=(Lib.decDigits u,false):=by
 have h:=mh u
 unfold signed
 split
 ·rename_i r h';rw[h'] at h;simp[dP] at h
 ·rfl
theorem vO{n:Int}(h:ec n=true):bX (ay n)=(n,0):=by
 have hh:=h
 simp only[ec,Bool.and_eq_true,decide_eq_true_eq] at hh
 rw[ay,if_pos h,Lib.itoa]
 by_cases hn:n<0
 ·rw[if_pos hn]
  have h1:signed (45::Lib.decDigits n.natAbs)=(Lib.decDigits n.natAbs,true):=rfl
  have hl:=o6 (u:=n.natAbs) (k:=19) ab ab
  unfold bX
  rw[h1]
  simp only[yl,mh]
  rw[if_neg (by simp;omega),if_neg,if_neg aB,if_neg ab]
  ·simp;omega
  ·rintro(e|⟨e,_⟩)
   ·exact sk _ e
   ·exact yj _ ab e
 ·rw[if_neg hn]
  have hl:=o6 (u:=n.toNat) (k:=19) ab ab
  unfold bX
  rw[Xt]
  simp only[yl,mh]
  rw[if_neg ab,if_neg,if_neg aB,if_neg ab]
  ·simp;omega
  ·rintro(e|⟨e,e2⟩)
   ·exact sk _ e
   ·by_cases h0:n.toNat=0
    ·rw[h0] at e2;simp[Lib.decDigits] at e2
    ·exact yj _ h0 e
theorem Xp{l:Bs}{n:Int}(h:bX l=(n,0)):ec n=true∧ay n=l:=by
 unfold bX at h
 split at h
 ·simp at h
 rename_i hlen
 split at h
 ·simp at h
 rename_i hne
 split at h
 ·simp at h
 rename_i hd
 split at h
 ·simp at h
 rename_i hv
 replace hd:(signed l).1.all dP=true:=by simpa using hd
 replace hne:(signed l).1≠[]∧((signed l).1.head?=some 48→l.length≤1):=by
  constructor
  ·intro e;exact hne (.inl e)
  ·intro e;apply Nat.le_of_not_lt;intro h';exact hne (.inr ⟨e,h'⟩)
 simp only[Prod.mk.injEq,and_true] at h
 generalize hs:signed l=s at *
 obtain⟨ds,b⟩:=s
 simp only at h hd hne hv
 cases b with
 |true=>
  simp only[if_true] at h
  have hl:l=45::ds:=by
   unfold signed at hs;split at hs
   ·simp only[Prod.mk.injEq,and_true] at hs;rw[hs]
   ·simp at hs
  subst hl
  have h0:ds.head?≠some 48:=fun e=>by
   have h1:=hne.2 e
   cases ds with
   |nil=>simp at e
   |cons=>simp at h1
  have h2:=yk _ ds rfl hd hne.1 (fun e=>absurd e h0)
  have h3:cV 0 ds≠0:=by
   intro e
   rw[e] at h2
   rw[←h2] at h0
   simp[Lib.decDigits] at h0
  have hok:ec n=true:=by simp only[ec,Bool.and_eq_true,decide_eq_true_eq];omega
  refine⟨hok,?_⟩
  rw[ay,if_pos hok,Lib.itoa,if_pos ab]
  have:n.natAbs=cV 0 ds:=by omega
  rw[this,h2]
 |false=>
  simp only[Bool.false_eq_true,if_false] at h
  have hl:ds=l:=by
   unfold signed at hs;split at hs
   ·simp at hs
   ·simp only[Prod.mk.injEq,and_true] at hs;exact hs.symm
  subst hl
  have h2:=yk _ ds rfl hd hne.1 (fun e=>by
   have h1:=hne.2 e
   cases ds with
   |nil=>simp at e
   |cons=>simp at h1 ⊢;omega)
  have hok:ec n=true:=by simp only[ec,Bool.and_eq_true,decide_eq_true_eq];omega
  refine⟨hok,?_⟩
  rw[ay,if_pos hok,Lib.itoa,if_neg ab]
  have:n.toNat=cV 0 ds:=by omega
  rw[this,h2]
def cM(c:UInt8):Bs→Option (Bs×Bs)
 |[]=>none
 |x::l=>if x=c then some ([],l) else(cM c l).map fun p=>(x::p.1,p.2)
theorem uA{c:UInt8}:∀{l:Bs},cM c l=none↔c∉l
 |[]=>by simp[cM]
 |x::l=>by
  simp only[cM]
  split
  ·rename_i h;subst h;simp
  ·rename_i h
   simp only[Option.map_eq_none_iff,uA (l:=l),List.mem_cons,not_or]
   exact⟨fun h'=>⟨fun e=>h e.symm,h'⟩,fun h'=>h'.2⟩
theorem lB{c:UInt8}:∀{l a b:Bs},cM c l=some (a,b)↔(l=a++c::b∧c∉a)
 |[],a,b=>by simp[cM]
 |x::l,a,b=>by
  simp only[cM]
  split
  ·rename_i h;subst h
   constructor
   ·intro e;simp only[Option.some.injEq,Prod.mk.injEq] at e;obtain⟨rfl,rfl⟩:=e;simp
   ·rintro⟨e,hn⟩
    cases a with
    |nil=>simp at e;simp[e]
    |cons y a=>simp at e;obtain⟨rfl,_⟩:=e;simp at hn
  ·rename_i h
   constructor
   ·intro e
    simp only[Option.map_eq_some_iff,Prod.mk.injEq,Prod.exists] at e
    obtain⟨a',b',h1,rfl,rfl⟩:=e
    obtain⟨h2,h3⟩:=lB.1 h1
    refine⟨by rw[h2];rfl,?_⟩
    simp only[List.mem_cons,not_or]
    exact⟨fun e=>h e.symm,h3⟩
   ·rintro⟨e,hn⟩
    cases a with
    |nil=>simp at e;exact absurd e.1 h
    |cons y a=>
     simp only[List.cons_append,List.cons.injEq] at e
     obtain⟨rfl,e⟩:=e
     simp only[List.mem_cons,not_or] at hn
     rw[lB.2 ⟨e,hn.2⟩];rfl
theorem uz{c:UInt8}{a:Bs}(b:Bs)(h:c∉a):cM c (a++c::b)=some (a,b):=lB.2 ⟨rfl,h⟩
theorem qH{c:UInt8}:∀{l:Bs},Lib.indexByte l c=match cM c l with|none=>-1|some p=>(p.1.length:Int)
 |[]=>rfl
 |x::l=>by
  simp only[Lib.indexByte,cM]
  by_cases h:x=c
  ·subst h;simp
  ·have h':(x==c)=false:=by simpa using h
   rw[if_neg h,h',qH (l:=l)]
   cases cM c l with
   |none=>simp
   |some p=>simp
theorem si{c:UInt8}{l a b:Bs}(h:cM c l=some (a,b)):b.length<l.length:=by
 obtain⟨h1,_⟩:=lB.1 h
 rw[h1];simp;omega
abbrev Fd:=Int×Bs
def dc(f:Fd):Bool:=decide (1≤f.1)&&decide (f.1≤9999)&&decide (1≤f.2.length)&&decide (f.2.length≤256)&&decide ((1:UInt8)∉f.2)
def gm(f:Fd):Bs:=ay f.1++61::(f.2++[1])
def bw:List Fd→Bs
 |[]=>[]
 |f::l=>gm f++bw l
def gY(l:List Fd):Bs×Int:=if 100<l.length then([],4) else if l.all dc=true then(bw l,0) else([],1)
def gC(t:Bs):Option Fd:=
 match cM 61 t with
 |none=>none
 |some (a,v)=>if(bX a).2=0∧1≤(bX a).1∧(bX a).1≤9999∧dc ((bX a).1,v)=true then some ((bX a).1,v) else none
def dE(acc:List Fd)(b:Bs):List Fd×Int:=
 if b=[] then(acc,0)
 else match h:cM 1 b with
  |none=>([],2)
  |some (t,r)=>match gC t with
   |none=>([],3)
   |some f=>if acc.length=100 then([],4) else dE (acc++[f]) r
termination_by b.length
decreasing_by exact si h
def bE(b:Bs):List Fd×Int:=if 65536<b.length then([],4) else dE [] b
theorem mL{acc:List Fd}:dE acc []=(acc,0):=by rw[dE];simp
theorem s7{acc:List Fd}{b:Bs}(h:b≠[])(hc:cM 1 b=none):dE acc b=([],2):=by
 rw[dE,if_neg h]
 split
 ·rfl
 ·rename_i h2;rw[hc] at h2;simp at h2
theorem oh{acc:List Fd}{b t r:Bs}(hc:cM 1 b=some (t,r)):dE acc b=match gC t with
 |none=>([],3)
 |some f=>if acc.length=100 then([],4) else dE (acc++[f]) r:=by
 have h:b≠[]:=by rintro rfl;simp[cM] at hc
 rw[dE,if_neg h]
 split
 ·rename_i h2;rw[hc] at h2;simp at h2
 ·rename_i t' r' h2;rw[hc] at h2;simp only[Option.some.injEq,Prod.mk.injEq] at h2;obtain⟨rfl,rfl⟩:=h2;rfl
theorem wv{n:Int}(h1:1≤n)(h2:n≤9999):ec n=true∧ay n=Lib.decDigits n.toNat∧(1:UInt8)∉ay n∧(61:UInt8)∉ay n∧(ay n).length≤4:=by
 have hok:ec n=true:=by simp only[ec,Bool.and_eq_true,decide_eq_true_eq];omega
 have e:ay n=Lib.decDigits n.toNat:=by rw[ay,if_pos hok,Lib.itoa,if_neg ab]
 have hd:=mh n.toNat
 rw[List.all_eq_true] at hd
 refine⟨hok,e,?_,?_,?_⟩
 ·rw[e];intro hm;have:=hd _ hm;simp[dP] at this
 ·rw[e];intro hm;have:=hd _ hm;simp[dP] at this
 ·rw[e];exact o6 ab ab
theorem pM{f:Fd}:dc f=true↔1≤f.1∧f.1≤9999∧1≤f.2.length∧f.2.length≤256∧(1:UInt8)∉f.2:=by
 simp only[dc,Bool.and_eq_true,decide_eq_true_eq,and_assoc]
theorem V1{f:Fd}(h:dc f=true):gC (ay f.1++61::f.2)=some f:=by
 have h':=pM.1 h
 obtain⟨hok,_,_,h61,_⟩:=wv h'.1 h'.2.1
 unfold gC
 rw[uz _ h61]
 simp only[vO hok]
 rw[if_pos (by simp[h'.1,h'.2.1,h])]
theorem V2{t:Bs}{f:Fd}(h:gC t=some f):dc f=true∧t=ay f.1++61::f.2:=by
 unfold gC at h
 split at h
 ·simp at h
 ·rename_i a v hc
  split at h
  ·rename_i hh
   simp only[Option.some.injEq] at h
   subst h
   obtain⟨e,_⟩:=lB.1 hc
   have:bX a=((bX a).1,0):=by rw[←hh.1]
   obtain⟨_,h2⟩:=Xp this
   refine⟨hh.2.2.2,?_⟩
   simp only[h2];exact e
  ·simp at h
theorem LI{f:Fd}(h:dc f=true):(1:UInt8)∉ay f.1++61::f.2:=by
 have h':=pM.1 h
 obtain⟨_,_,h1,_,_⟩:=wv h'.1 h'.2.1
 simp only[List.mem_append,List.mem_cons,not_or]
 exact⟨h1,by decide,h'.2.2.2.2⟩
theorem yI(f:Fd)(r:Bs):gm f++r=(ay f.1++61::f.2)++1::r:=by simp[gm]
theorem vM:∀(l:List Fd) (acc:List Fd) (r:Bs),l.all dc=true→acc.length+l.length≤100→dE acc (bw l++r)=dE (acc++l) r
 |[],acc,r,_,_=>by simp[bw]
 |f::l,acc,r,h,hl=>by
  simp only[List.all_cons,Bool.and_eq_true] at h
  simp only[List.length_cons] at hl
  have e:bw (f::l)++r=(ay f.1++61::f.2)++1::(bw l++r):=by
   show(gm f++bw l)++r=_
   rw[List.append_assoc,yI]
  rw[e,oh (uz _ (LI h.1)),V1 h.1]
  simp only
  rw[if_neg ab,vM l (acc++[f]) r h.2 (by simp;omega)]
  simp
theorem Vb:∀(n:Nat) (b:Bs) (acc m:List Fd),b.length≤n→acc.length≤100→dE acc b=(m,0)→∃l,m=acc++l∧b=bw l∧l.all dc=true∧m.length≤100:=by
 intro n
 induction n with
 |zero=>
  intro b acc m hn ha h
  have:b=[]:=List.eq_nil_of_length_eq_zero ab
  subst this
  rw[mL] at h
  simp only[Prod.mk.injEq,and_true] at h;subst h
  exact⟨[],by simp,rfl,rfl,ha⟩
 |succ n ih=>
  intro b acc m hn ha h
  by_cases hb:b=[]
  ·subst hb
   rw[mL] at h
   simp only[Prod.mk.injEq,and_true] at h;subst h
   exact⟨[],by simp,rfl,rfl,ha⟩
  cases hc:cM 1 b with
  |none=>rw[s7 hb hc] at h;simp at h
  |some p=>
   obtain⟨t,r⟩:=p
   rw[oh hc] at h
   cases hr:gC t with
   |none=>rw[hr] at h;simp at h
   |some f=>
    rw[hr] at h
    simp only at h
    split at h
    ·simp at h
    ·rename_i h100
     have hlt:=si hc
     obtain⟨l,h1,h2,h3,h4⟩:=ih r (acc++[f]) m ab (by simp;omega) h
     obtain⟨h5,h6⟩:=V2 hr
     refine⟨f::l,by rw[h1];simp,?_,by simp[h5,h3],h4⟩
     rw[(lB.1 hc).1,h6,h2]
     show _=gm f++bw l
     rw[yI]
theorem U6:∀(n:Nat) (b:Bs) (acc:List Fd),b.length≤n→(dE acc b).2≠0→(dE acc b).1=[]:=by
 intro n
 induction n with
 |zero=>
  intro b acc hn h
  have:b=[]:=List.eq_nil_of_length_eq_zero ab
  subst this
  rw[mL] at h;simp at h
 |succ n ih=>
  intro b acc hn h
  by_cases hb:b=[]
  ·subst hb;rw[mL] at h;simp at h
  cases hc:cM 1 b with
  |none=>rw[s7 hb hc]
  |some p=>
   obtain⟨t,r⟩:=p
   rw[oh hc] at h ⊢
   cases hr:gC t with
   |none=>rfl
   |some f=>
    rw[hr] at h
    simp only at h ⊢
    split
    ·rfl
    ·rename_i h100
     rw[if_neg h100] at h
     exact ih r _ (by have:=si hc;omega) h
theorem AW{a b:List Fd}(ha:a.all dc=true)(hb:b.all dc=true)(h:a.length+b.length≤100)(hs:(bw a++bw b).length≤65536):bE (bw a++bw b)=(a++b,0):=by
 rw[bE,if_neg ab,vM a [] _ ha (by simp;omega)]
 have:=vM b a [] hb h
 simp only[List.append_nil] at this
 simp only[List.nil_append,this,mL]
theorem AT{b:Bs}(h:(bE b).2≠0):(bE b).1=[]:=by
 unfold bE at h ⊢
 split
 ·rfl
 ·rename_i h1;rw[if_neg h1] at h;exact U6 _ b [] (Nat.le_refl _) h
theorem LG{f:Fd}(h:dc f=true):(gm f).length≤262:=by
 have h':=pM.1 h
 have:=(wv h'.1 h'.2.1).2.2.2.2
 simp only[gm,List.length_append,List.length_cons,List.length_nil]
 omega
theorem qz:∀{l:List Fd},l.all dc=true→(bw l).length≤262*l.length
 |[],_=>by simp[bw]
 |f::l,h=>by
  simp only[List.all_cons,Bool.and_eq_true] at h
  have:=LG h.1
  have:=qz h.2
  simp only[bw,List.length_append,List.length_cons];omega
def bM(l:List Fd)(tag:Int):Bs×Bool:=
 match l with
 |[]=>([],false)
 |f::r=>if f.1=tag then(f.2,true) else bM r tag
def lS(l:List Fd)(tag:Int):Int×Bool:=if(bM l tag).2=true then(if(bX (bM l tag).1).2=0 then((bX (bM l tag).1).1,true) else(0,false)) else(0,false)
end Go.Fld
end
