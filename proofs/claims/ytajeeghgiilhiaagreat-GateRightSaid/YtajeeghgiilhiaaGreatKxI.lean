/- Texts of one chain, put together (Vs, Lm, Shelf, Q21, Le, Sr). -/
import Derived.Test.YtajeeghgiilhiaaGreatKxH
import Derived.Test.YtajeeghgiilhiaaGreatKxE
import Derived.Test.YtajeeghgiilhiaaGreatKxF
import Derived.Laws.Externs
import Derived.Shelf.Bits.Mul64
import Derived.Shelf.SlIter.Sorted
import Derived.Shelf.SortM.Plain
import Derived.Shelf.SortM.SortNone
import Derived.Ground.GgzProg
import Derived.Ground.SlgmProg
import Derived.Test.YtajeeghgiilhiaaGreatProg
import Derived.Test.YtajeeghgiilhiaaGreatKxG
import Derived.Test.YtajeeghgiilhiaaGreatKxD
import Derived.RangeFuncBox
import Derived.RangeFuncLeaves
import Derived.Shelf.Abstract
import Derived.WalkKit
import Derived.OwnWalkIn
import Derived.TacticsInMore
import Derived.LoopNIn
import Derived.LoopIn
import Derived.Test.YtajeeghgiilhiaaGreatKxA
set_option linter.unusedVariables false
set_option linter.unusedSimpArgs false
set_option maxHeartbeats 16000000
set_option maxRecDepth 8000
section
namespace Go.Proofs.YtajeeghgiilhiaaGreat
open Go Go.Abs Go.RowKit Go.Bk
abbrev dx(b:Bk):AV:= .agg [aV b.ak,cg b.al,.sl none 1 (b.ids.map str),i64 b.clock,i64 b.bad]
theorem qB(b:Bk)(m:Nat):(aZ b m).take b.al.length=b.al.map bY:=C0 _
theorem tH{α:Type}[DecidableEq α]{a b:List α}(h:¬a.length=b.length):decide (a=b)=false:=decide_eq_false fun e=>h (by rw[e])
theorem vq{α:Type}[DecidableEq α]{a b:List α}{i:Nat}{x y:α}(h1:a[i]?=some x)(h2:b[i]?=some y)(h:x≠y):decide (a=b)=false:=decide_eq_false fun e=>h (by rw[e,h2,Option.some.injEq] at h1;exact h1.symm)
theorem td{α:Type}[DecidableEq α]{a b:List α}{i:Nat}(h0:a.length=b.length)(hi:a.length≤i)(h:a.take i=b.take i):decide (a=b)=true:=by
 rw[List.take_of_length_le hi,List.take_of_length_le ab] at h
 exact decide_eq_true h
theorem vJ{α:Type}{a b:List α}{i:Nat}{x y:α}(h1:a[i]?=some x)(h2:b[i]?=some y)(h:x=y)(h3:a.take i=b.take i):a.take (i+1)=b.take (i+1):=by rw[cF h1,cF h2,h3,h]
theorem DG{x y:Od}(h:x.id=y.id∧x.acc=y.acc∧x.sym=y.sym∧x.az=y.az∧x.aq=y.aq∧x.aA=y.aA∧x.done=y.done∧x.bq=y.bq):x=y:=by
 obtain⟨a,b,c,d,e,f,g,i⟩:=x
 obtain⟨h1,h2,h3,h4,h5,h6,h7,h8⟩:=h
 dsimp only at *
 subst h1;subst h2;subst h3;subst h4;subst h5;subst h6;subst h7;subst h8;rfl
theorem UL{x y:Od}(h:x.id=y.id→x.acc=y.acc→x.sym=y.sym→x.az=y.az→x.aq=y.aq→x.aA=y.aA→x.done=y.done→¬x.bq=y.bq):x≠y:=by
 rintro rfl;exact h rfl rfl rfl rfl rfl rfl rfl rfl
theorem IL{x y:Dn}(h:x.id=y.id∧x.ord=y.ord∧x.acc=y.acc∧x.sym=y.sym∧x.az=y.az∧x.aq=y.aq∧x.aA=y.aA∧x.time=y.time∧x.live=y.live):x=y:=by
 obtain⟨a,b,c,d,e,f,g,i,j⟩:=x
 obtain⟨h1,h2,h3,h4,h5,h6,h7,h8,h9⟩:=h
 dsimp only at *
 subst h1;subst h2;subst h3;subst h4;subst h5;subst h6;subst h7;subst h8;subst h9;rfl
theorem Et{x y:Dn}(h:x.id=y.id→x.ord=y.ord→x.acc=y.acc→x.sym=y.sym→x.az=y.az→x.aq=y.aq→x.aA=y.aA→x.time=y.time→¬x.live=y.live):x≠y:=by
 rintro rfl;exact h rfl rfl rfl rfl rfl rfl rfl rfl rfl
theorem nP(p q:Bk):decide (p=q)=(decide (p.ak=q.ak)&&decide (p.al=q.al)&&decide (p.ids=q.ids)&&decide (p.clock=q.clock)&&decide (p.bad=q.bad)):=by
 obtain⟨a,b,c,d,e⟩:=p
 obtain⟨a',b',c',d',e'⟩:=q
 simp[Bool.and_assoc]
theorem TG{b:Bk}(h:aW b=true):True∧(b.ak.length≤64∧b.al.length≤256∧b.ids.length≤256)∧∀f∈b.al,0≤f.time∧f.time≤4611686018427387904:=by
 have h1:=fj.1 h
 refine⟨trivial,⟨l8 h1.1.1,h1.1.2.1,h1.1.2.2.1⟩,fun f hf=>?_⟩
 have h2:=h1.2.2.1 f hf
 simp only[ct,Bool.and_eq_true,decide_eq_true_eq] at h2
 omega
end Go.Proofs.YtajeeghgiilhiaaGreat
end
section
namespace Go.Abs
open Go Go.RowKit
theorem an.iY{E:Env}{Q:Exit→St→Prop}{st:St}{ops:Array Oper}{l:List Oper}{dst:Option Tmp}{t ty:TypeId}{pos:String}{after:Array Edge}{e:TypeId}{k n:Nat}(hai:dd E.P t=some (e,k,n))
 (h:an E ops l Q (St.put { st with own:=st.own++[some []] } dst (.mu st.own.length k 0 0 0))):an E ops (⟨dst,.buildSlice t 0 #[],ty,pos,after,none⟩::l) Q st:=by
 intro w0 im0 cx a w h0 hG r
 refine wpList_step (fun K' hK'=>?_)
 have hw:Region.wanted ⟨dst,.buildSlice t 0 #[],ty,pos,after,none⟩ (yielded ops a.tmps)=true:=rfl
 rw[if_pos hw]
 obtain⟨hu,hs,hk0,i,zv,hi,hz,hsize,hbytes,hzs⟩:=jf hai
 have hrun:(Instr.buildSlice t 0 #[]).run E.P w= .ok (.slice (some ⟨w.heap.size,0,none⟩) 0 0) (w.alloc (.cells #[] e)):=by
  unfold Instr.buildSlice
  simp only[Sem.run_bind,b6 hu,Result.andThen_ok,dO hs,Sem.run_ite,Nat.zero_mul,if_true,Sem.run_pure]
  have e0:Array.range 0= #[]:=Array.eq_empty_of_size_eq_zero aD
  simp[newRow,Instr.fill,e0]
 obtain⟨hle,r2⟩:=r.pI (qm w (.cells #[] e)) (g:=w.heap.size) (k:=k) (es:=[]) (Nat.le_refl _) ⟨#[],e,0,0,lL w _,.inl rfl,by simp,by simp,by simp⟩
 have hv:VR { cx with β:=cx.β++[some (w.heap.size,k)] } (.mu st.own.length k 0 0 0) (.slice (some ⟨w.heap.size,0,none⟩) 0 0):=by
  have hb:(cx.β++[some (w.heap.size,k)])[st.own.length]?=some (some (w.heap.size,k)):=by
   rw[←r.ca,List.getElem?_append_right (Nat.le_refl _)];simp
  have:=VR.mu (c:={ cx with β:=cx.β++[some (w.heap.size,k)] }) (id:=st.own.length) (off:=0) (len:=0) (cap:=0) hb (Nat.le_refl _)
  rwa[Nat.zero_mul] at this
 refine eT (w':=w.alloc (.cells #[] e)) (v:= .slice (some ⟨w.heap.size,0,none⟩) 0 0) ?_ (hK' _ _ (h w0 im0 _ _ _ h0 hG (r2.put dst hv)))
 simp only[execOp,Array.map_empty,Sem.run_bind,hrun,Result.andThen_ok,Sem.run_pure]
theorem an.kj{E:Env}{Q:Exit→St→Prop}{st:St}{ops:Array Oper}{l:List Oper}{dst:Option Tmp}{t tx ty:TypeId}{x y:Operand}{pos:String}{after:Array Edge}{e:TypeId}{k n id:Nat}{xs:List AV}
 (hx:eI E.P tx=true) (hai:dd E.P t=some (e,k,n)) (hs:st.ev x= .mu id k 0 0 0) (hsrc:iu (st.ev y) k=some xs) (ho:st.own[id]?=some (some [])) (h62:xs.length≤4611686018427387904) (hbt:xs.length*n≤140737488355328)
 (h:∀m,an E ops l Q (St.put { st with own:=st.own.set id none++[some (xs++spare k m)] } dst (.mu st.own.length k 0 xs.length (xs.length+m)))):an E ops (⟨dst,.call ⟨.builtin .append,#[x,y],#[t,tx]⟩,ty,pos,after,none⟩::l) Q st:=by
 intro w0 im0 cx a w h0 hG r
 refine wpList_step (fun K' hK'=>?_)
 have hw:Region.wanted ⟨dst,.call ⟨.builtin .append,#[x,y],#[t,tx]⟩,ty,pos,after,none⟩ (yielded ops a.tmps)=true:=rfl
 rw[if_pos hw]
 have hv:=r.ev x
 rw[hs] at hv
 have fin:∀(v':Value) (w':World) (c':Ctx) (m:Nat),(Builtin.append_ #[t,tx] ty #[a.eval x,a.eval y]).run E.P w= .ok v' w'→Rel w0 im0 c' { st with own:=st.own.set id none++[some (xs++spare k m)] } a w'→VR c' (.mu st.own.length k 0 xs.length (xs.length+m)) v'→
  Oper.wp E.P ⟨dst,.call ⟨.builtin .append,#[x,y],#[t,tx]⟩,ty,pos,after,none⟩ a w K' (fun e a' w'=>gS w0 im0 (Q e) a' w'):=fun v' w' c' m h1 h2 h3=>by
  refine eT (w':=w') (v:=v') ?_ (hK' _ _ (h m w0 im0 _ _ _ h0 hG (h2.put dst h3)))
  simp only[execOp,resolve,Sem.run_bind,Sem.run_pure,Result.andThen_ok,invoke,builtin,List.map_toArray,List.map_cons,List.map_nil,h1]
 by_cases hne:xs=[]
 ·subst hne
  obtain⟨hu,hss,hk0,i,zv,hi,hz,hsize,hbytes,hzs⟩:=jf hai
  obtain⟨news,hnl,hnc,hlen,hone,hfirst⟩:=oy (P:=E.P) r (r.ev y) hk0 hsrc
  have hnews:news=[]:=List.eq_nil_of_length_eq_zero (by simpa using hnl)
  subst hnews
  have hrun:∀base,a.eval x= .slice base 0 0→(Builtin.append_ #[t,tx] ty #[a.eval x,a.eval y]).run E.P w= .ok (a.eval x) w:=fun base hb=>by
   rw[hb]
   have:=nL (P:=E.P) (w:=w) (ty:=ty) (base:=base) (n:=0) (cap:=0) hu hss hx (hlen w) (hfirst w (fun _ _=>rfl)) aD
   rw[this]
   cases base<;>simp[storeCells]
  rcases hv.c0 with⟨g,hb,_,he⟩|⟨_,_,he⟩
  ·obtain⟨hle,r2⟩:=r.uP hb ho
   refine fin _ w _ 0 (hrun _ he) (by simpa[spare] using r2) ?_
   rw[he]
   exact .mu (by show(cx.β++[_])[_]?=_;rw[←r.ca];simp) aD
  ·obtain⟨hle,r2⟩:=(r.ma id).rM
   exact fin _ w _ 0 (hrun _ he) (by simpa[spare] using r2) (by rw[he];exact .jC)
 ·obtain⟨v',w',c',m,hr,hR,hV⟩:=u6 (P:=E.P) (ty:=ty) r hx hai (r.ev y) hsrc hne (es:=[]) (sp:=[]) hv ho (by simpa using h62) (by simpa using hbt)
  exact fin v' w' c' m hr (by simpa using hR) (by simpa using hV)
end Go.Abs
namespace Go.Abs
open Go Go.RowKit
def vN:AV→Bool
 |.mu _ _ _ _ _=>false
 |_=>true
def gz(st:St):Option Oper→Prop
 |some o=>match o.op with
  |.call cl=>match cl.callee,cl.args.toList with
   |.builtin .append,x::_=>vN (st.ev x)=true
   |_,_=>True
  |_=>True
 |none=>True
def qL:Op→Bool
 |.store .. =>true
 |_=>false
def fy(E:Env)(ops:Array Oper)(i:Nat)(C:St→Prop)(st:St):Prop:=gz st ops[i]?∧bJ E ops i C st
def gg(E:Env)(ops:Array Oper)(K:St→Prop):cW→St→Prop
 |.done,st=>K st
 |.take i p,st=>fy E ops i (gg E ops K p) st
 |.fork p,st=>gg E ops K p st
 |.alt i p rest,st=>fy E ops i (gg E ops K p) st∧gg E ops K rest st
 |.ends,_=>True
def kf(E:Env)(ops:Array Oper)(K:St→Prop):Nat→Array Bool→St→Prop
 |0,L,st=>Region.ready .any ops L=[]∧K st
 |n+1,L,st=>(Region.ready .any ops L=[]→K st)∧∀i∈Region.ready .any ops L,fy E ops i (kf E ops K n (L.setIfInBounds i true)) st
def nW(P:Program)(ops:Array Oper)(p o:Oper):Bool:=
 (nC P p.op&&oz P p.op&&(!qL o.op||!jn p.op)) &&
 (match p.dst with|none=>true|some d=>!(Oper.looksAt ops o).contains d&&o.dst !=some d) &&
 (match o.dst with|none=>true|some d=>!(Oper.looksAt ops p).contains d)
def mP(P:Program)(ops:Array Oper)(anc:List (List Nat))(L:Array Bool)(p:Nat):Bool:=
 match ops[p]? with
 |none=>false
 |some x=>(List.range ops.size).all fun o=>o==p||L.getD o true||(anc.getD o []).contains p||(match ops[o]? with|none=>true|some y=>nW P ops x y)
def jG(P:Program)(ops:Array Oper)(anc:List (List Nat)):Bool→cW→Array Bool→Nat→Bool
 |b,.done,L,_=>b&&(Region.ready .any ops L).isEmpty
 |b,.take i p,L,n=>b&&(match n with|0=>false|m+1=>(Region.ready .any ops L).contains i&&mP P ops anc L i&&jG P ops anc true p (L.setIfInBounds i true) m)
 |b,.fork p,L,n=>b&&(p.alts==Region.ready .any ops L)&&!p.alts.isEmpty&&jG P ops anc false p L n
 |b,.alt i p rest,L,n=>!b&&(match n with|0=>false|m+1=>(Region.ready .any ops L).contains i&&jG P ops anc true p (L.setIfInBounds i true) m&&jG P ops anc false rest L (m+1))
 |b,.ends,_,_=>!b
section
variable{E:Env}{ops:Array Oper}{K:St→Prop}{anc:List (List Nat)}
theorem fy.mono{i:Nat}{C D:St→Prop}{st:St}(hk:fy E ops i C st)(h:∀s,C s→D s):fy E ops i D st:=⟨hk.1,hk.2.mono h⟩
theorem kf.drop:∀{n:Nat} {L:Array Bool} {st:St},kf E ops K n L st→lh E ops K n L st
 |0,_,_,h=>h
 |_+1,_,_,h=>⟨h.1,fun i hi=>(h.2 i hi).2.mono fun _=>kf.drop⟩
theorem Gn{P:Program}{p:Oper}{st:St}(h:nC P p.op=true):gz st (some p):=by
 obtain⟨dst,op,type,pos,after,guard⟩:=p
 unfold gz
 cases op<;>simp only
 case call cl=>
  obtain⟨callee,args,tys⟩:=cl
  simp only[nC] at h
  cases callee with
  |value f=>simp at h
  |invoke=>simp at h
  |builtin b=>cases b<;>simp only at h ⊢ <;>first|trivial|(simp at h;done)
theorem Ij{st:St}{d:Option Tmp}{y:AV}{o:Oper}(h:∀t∈Oper.looksAt ops o,d≠some t):gz (st.put d y) (some o)=gz st (some o):=by
 unfold gz
 obtain⟨dst,op,type,pos,after,guard⟩:=o
 cases op<;>simp only
 case call cl=>
  obtain⟨callee,args,tys⟩:=cl
  simp only
  split
  ·rename_i x xs h1
   rw[nA]
   intro t ht
   exact h t (ng (by simp[Op.operands,Call.operands];rw[←Array.mem_toList_iff,h1,ht];simp))
  ·rfl
theorem jD{o:Oper}{s:St}{C:St→Prop}(ht:gz s (some o))(hset:qL o.op=false)(hk:ee E o s C):ee E o s (fun s'=>C s'∧iL s s'):=by
 cases hso:gX o.op with
 |false=>
  refine oQ (fun _ _=>rfl) rfl rfl rfl rfl hk (fun s' t' hc ha=>?_)
  obtain⟨z,h1,h2⟩:=ha.at'
  have:t'=s':=by rw[h2,←h1]
  rw[this];exact⟨hc,ha.ext hso⟩
 |true=>
  obtain⟨dst,op,type,pos,after,guard⟩:=o
  cases op<;>simp only[gX,qL] at hso hset<;>try(simp at hso;done)
  case store=>simp at hset
  case call cl=>
   obtain⟨callee,args,tys⟩:=cl
   simp only at hso
   cases callee with
   |value f=>simp at hso
   |invoke=>simp at hso
   |builtin b=>
    cases b<;>simp only at hso<;>try(simp at hso;done)
    unfold ee at hk ⊢
    simp only at hk ⊢
    split at hk
    ·rename_i x y t tx hargs htys
     rename_i hcal
     simp only[gz,hargs] at ht
     obtain⟨g1,e,k,n,xs,g2,g3,hk⟩:=hk
     refine⟨g1,e,k,n,xs,g2,g3,?_⟩
     split at hk
     ·obtain⟨g4,g5,g6,g7,hk⟩:=hk
      exact⟨g4,g5,g6,g7,hk,fun id es he=>by rw[dM.1];exact he⟩
     ·obtain⟨g6,g7,hk⟩:=hk
      exact⟨g6,g7,hk,fun id es he=>by rw[dM.1];exact he⟩
     ·rename_i hx
      rw[hx] at ht;simp[vN] at ht
     ·exact hk.elim
    ·rename_i hh;simp at hh
    ·exact(uj (fun y hy=>⟨hy,fun id es he=>by rw[dM.1];exact he⟩) hk)
theorem swapT{i j:Nat}{p o:Oper}{C:St→Prop}{st:St}(hp:ops[i]?=some p)(ho:ops[j]?=some o)(hs:nW E.P ops p o=true)(h:fy E ops i (fy E ops j C) st):fy E ops j (fy E ops i C) st:=by
 unfold nW at hs
 simp only[Bool.and_eq_true] at hs
 obtain⟨⟨⟨⟨hl,hd⟩,hst⟩,hpo⟩,hop⟩:=hs
 have hpo1:∀t∈Oper.looksAt ops o,p.dst≠some t:=fun t ht e=>by
  rw[e] at hpo
  simp only[Bool.and_eq_true,Bool.not_eq_true'] at hpo
  have:=hpo.1
  simp[ht] at this
 have hpo2:∀t,p.dst=some t→o.dst≠some t:=fun t e1 e2=>by
  rw[e1] at hpo
  simp only[Bool.and_eq_true] at hpo
  have:=hpo.2
  simp[e2] at this
 have hop1:∀t∈Oper.looksAt ops p,o.dst≠some t:=fun t ht e=>by
  rw[e] at hop
  simp[ht] at hop
 have htp:∀{C:St→Prop} {s:St},bJ E ops i C s→fy E ops i C s:=fun h=>⟨by rw[hp];exact Gn hl,h⟩
 have h:=h.2
 have h1:∃y,fy E ops j C (st.put p.dst y)∧
  (∀(C:St→Prop) (t:St),(∀x∈p.op.operands,st.ev x=t.ev x)→eF ops p t=eF ops p st→(jn p.op=true→iL st t)→C (t.put p.dst y)→bJ E ops i C t):=by
  unfold bJ at h
  rw[hp] at h
  simp only at h
  obtain⟨q,hq,h2,h3⟩:=h
  cases q with
  |true=>
   have h2:=(ox hl).1 (h2 rfl)
   obtain⟨y,ha,hb⟩:=qj hd _ h2
   refine⟨y,ha,fun C t e1 e2 e3 hC=>?_⟩
   unfold bJ
   rw[hp]
   refine⟨true,by rw[e2];exact hq,fun _=>(ox hl).2 ?_,fun hq=>by simp at hq⟩
   exact sx e1 e3 (hb (fun z=>C (t.put p.dst z)) hC)
  |false=>
   refine⟨.v undef,h3 rfl,fun C t e1 e2 e3 hC=>?_⟩
   unfold bJ
   rw[hp]
   exact⟨false,by rw[e2];exact hq,fun hq=>by simp at hq,fun _=>hC⟩
 obtain⟨y,h2,key⟩:=h1
 have hwp:∀{t:St} {own:List (Option (List AV))} {tk:List Nat} {rv:Option (List (Tmp×Nat))} {z:AV},t=St.put { st with own:=own,tk:=tk,bZ:=rv } o.dst z→eF ops p t=eF ops p st:=fun{t own tk rv z} e=>by
  rw[e,kS hop1];rfl
 have hevp:∀{t:St} {own:List (Option (List AV))} {tk:List Nat} {rv:Option (List (Tmp×Nat))} {z:AV},t=St.put { st with own:=own,tk:=tk,bZ:=rv } o.dst z→∀x∈p.op.operands,st.ev x=t.ev x:=fun{t own tk rv z} e x hx=>by
  rw[e,nA (fun u hu=>hop1 u (ng (hu ▸ hx)))]
  cases x<;>rfl
 obtain⟨ht,h2⟩:=h2
 rw[ho] at ht
 have ht':gz st (some o):=by rwa[Ij hpo1] at ht
 refine⟨by rw[ho];exact ht',?_⟩
 unfold bJ at h2 ⊢
 rw[ho] at h2 ⊢
 simp only at h2 ⊢
 obtain⟨q,hq,h3,h4⟩:=h2
 rw[kS hpo1] at hq
 refine⟨q,hq,fun e=>?_,fun e=>?_⟩
 ·have h5:ee E o (st.put p.dst y) (fun s'=>C s'∧(jn p.op=true→iL (st.put p.dst y) s')):=by
   cases hset:qL o.op with
   |false=>exact oT (jD ht hset (h3 e)) fun s' hs'=>⟨hs'.1,fun _=>hs'.2⟩
   |true=>exact oT (h3 e) fun s' hs'=>⟨hs',fun hload=>by simp[hset,hload] at hst⟩
  refine oQ (t:=st) (fun x hx=>nA (fun u hu=>hpo1 u (ng (hu ▸ hx)))) dM.1 dM.2.1 dM.2.2.1 dM.2.2.2 h5 (fun s' t' hc ha=>?_)
  obtain⟨z,e1,e2⟩:=ha.at'
  rw[ug] at e1
  have hC:C (t'.put p.dst y):=by
   rw[e2,←put_comm (fun t h1 h2=>hpo2 t h1 h2),←e1]
   exact hc.1
  exact htp (key C t' (hevp e2) (hwp e2) (fun hload=>by
   have:=hc.2 hload
   intro id es he
   rw[ha.own]
   exact this id es (by rw[dM.1];exact he)) hC)
 ·have h4:=h4 e
  rw[put_comm (fun t h1 h2=>hpo2 t h1 h2)] at h4
  have e2:st.put o.dst (.v undef)=St.put { st with own:=st.own,tk:=st.tk,bZ:=st.bZ } o.dst (.v undef):=rfl
  exact htp (key C (st.put o.dst (.v undef)) (hevp e2) (hwp e2) (fun _ id es he=>by rw[dM.1];exact he) h4)
theorem Uv(hv:gD ops anc=true){L:Array Bool}(hw:jF anc L){p o:Nat}(hf:mP E.P ops anc L p=true)(hp:p∈Region.ready .any ops L)(ho:o∈Region.ready .any ops L)(hne:o≠p):
 ∃x y,ops[p]?=some x∧ops[o]?=some y∧nW E.P ops x y=true:=by
 obtain⟨hpl,x,hx,_⟩:=mem_ready.1 hp
 obtain⟨hol,y,hy,_⟩:=mem_ready.1 ho
 refine⟨x,y,hx,hy,?_⟩
 unfold mP at hf
 simp only[hx,List.all_eq_true,List.mem_range,Bool.or_eq_true,beq_iff_eq] at hf
 have hlt:o<ops.size:=(Array.getElem?_eq_some_iff.1 hy).1
 have:=hf o hlt
 rcases this with((h|h)|h)|h
 ·exact absurd h hne
 ·rw[hol] at h;simp at h
 ·have:=qU hv hw ho p (by simpa using h)
  have h2:L.getD p true=true:=by
   simp only[Array.getD_eq_getD_getElem?] at this ⊢
   cases hh:L[p]? with
   |none=>simp
   |some b=>simpa[hh] using this
  rw[hpl] at h2;simp at h2
 ·simpa[hy] using h
theorem PQ{L:Array Bool}{p o:Nat}(hf:mP E.P ops anc L p=true):mP E.P ops anc (L.setIfInBounds o true) p=true:=by
 unfold mP at *
 split at hf
 ·simp at hf
 ·rename_i x hx
  rw[List.all_eq_true] at *
  intro q hq
  have:=hf q hq
  simp only[Bool.or_eq_true] at this ⊢
  rcases this with((h|h)|h)|h
  ·exact .inl (.inl (.inl h))
  ·refine .inl (.inl (.inr ?_))
   by_cases e:o=q
   ·subst e
    simp only[Array.getD_eq_getD_getElem?] at h ⊢
    rw[Array.getElem?_setIfInBounds,if_pos rfl]
    split<;>simp
   ·rwa[getD_set_ne true e]
  ·exact .inl (.inr h)
  ·exact .inr h
theorem Kz{i:Nat}{p o:Oper}{st:St}(hp:ops[i]?=some p)(hs:nW E.P ops p o=true)(h:fy E ops i (fun _=>False) st):False:=by
 have h:=h.2
 rw[lG hp] at h
 obtain⟨q,h1,h2,h3⟩:=h
 cases q with
 |false=>exact h3 rfl
 |true=>
  have h2:=h2 rfl
  unfold nW at hs
  simp only[Bool.and_eq_true] at hs
  obtain⟨y,hy,_⟩:=qj hs.1.1.1.2 _ ((ox hs.1.1.1.1).1 h2)
  exact hy
theorem yE(hv:gD ops anc=true){p:Nat}:∀(n:Nat) (L:Array Bool) (st:St),jF anc L→mP E.P ops anc L p=true→p∈Region.ready .any ops L→
 fy E ops p (kf E ops K n (L.setIfInBounds p true)) st→kf E ops K (n+1) L st
 |n,L,st,hw,hf,hp,h=>by
  refine⟨fun e=>(by rw[e] at hp;simp at hp),fun o ho=>?_⟩
  by_cases hne:o=p
  ·subst hne;exact h
  ·obtain⟨x,y,hx,hy,hs⟩:=Uv (E:=E) hv hw hf hp ho hne
   have ho':=rI ho hne (o:=p)
   cases n with
   |zero=>
    exfalso
    have:∀st',kf E ops K 0 (L.setIfInBounds p true) st'→False:=fun st' h'=>by
     have:=h'.1
     rw[this] at ho';simp at ho'
    exact Kz hx hs (h.mono (D:=fun _=>False) this)
   |succ m=>
    have h2:fy E ops p (fy E ops o (kf E ops K m ((L.setIfInBounds p true).setIfInBounds o true))) st:=h.mono fun s hs'=>hs'.2 o ho'
    have h3:=swapT hx hy hs h2
    refine h3.mono fun s hs'=>?_
    rw[set_comm] at hs'
    exact yE hv m _ s (hw.add hv ho) (PQ hf) (rI hp (fun e=>hne e.symm)) hs'
theorem pJ(hv:gD ops anc=true):∀(x:cW) (b:Bool) (L:Array Bool) (n:Nat) (st:St),jG E.P ops anc b x L n=true→jF anc L→gg E ops K x st→
 (b=true→kf E ops K n L st)∧(b=false→∀i∈x.alts,∃m,n=m+1∧fy E ops i (kf E ops K m (L.setIfInBounds i true)) st)
 |.done,b,L,n,st,h,hw,ha=>by
  simp only[jG,Bool.and_eq_true,List.isEmpty_iff] at h
  refine⟨fun _=>?_,fun hb=>by rw[hb] at h;simp at h⟩
  cases n with
  |zero=>exact⟨h.2,ha⟩
  |succ n=>exact⟨fun _=>ha,fun i hi=>by rw[h.2] at hi;simp at hi⟩
 |.take i p,b,L,n,st,h,hw,ha=>by
  simp only[jG,Bool.and_eq_true] at h
  refine⟨fun _=>?_,fun hb=>by rw[hb] at h;simp at h⟩
  cases n with
  |zero=>simp at h
  |succ n=>
   simp only[Bool.and_eq_true] at h
   obtain⟨_,⟨h1,h2⟩,h3⟩:=h
   have h1:i∈Region.ready .any ops L:=by simpa using h1
   refine yE hv n L st hw h2 h1 ?_
   exact fy.mono ha fun s hs=>(pJ hv p true _ n s h3 (hw.add hv h1) hs).1 rfl
 |.fork p,b,L,n,st,h,hw,ha=>by
  simp only[jG,Bool.and_eq_true,beq_iff_eq,Bool.not_eq_true',List.isEmpty_eq_false_iff] at h
  obtain⟨⟨⟨hb,h1⟩,h2⟩,h3⟩:=h
  refine⟨fun _=>?_,fun hb'=>by rw[hb'] at hb;simp at hb⟩
  have:=(pJ hv p false L n st h3 hw ha).2 rfl
  obtain⟨i0,hi0⟩:=List.exists_mem_of_ne_nil _ h2
  obtain⟨n',rfl,_⟩:=this i0 hi0
  refine⟨fun e=>by rw[h1,e] at hi0;simp at hi0,fun i hi=>?_⟩
  obtain⟨m,e,hm⟩:=this i (by rw[h1];exact hi)
  have:m=n':=by omega
  subst this
  exact hm
 |.alt i p rest,b,L,n,st,h,hw,ha=>by
  simp only[jG,Bool.and_eq_true,Bool.not_eq_true'] at h
  refine⟨fun hb=>by rw[hb] at h;simp at h,fun _=>?_⟩
  cases n with
  |zero=>simp at h
  |succ n=>
   simp only[Bool.and_eq_true] at h
   obtain⟨_,⟨h1,h2⟩,h3⟩:=h
   have h1:i∈Region.ready .any ops L:=by simpa using h1
   intro j hj
   simp only[cW.alts,List.mem_cons] at hj
   rcases hj with rfl|hj
   ·exact⟨n,rfl,fy.mono ha.1 fun s hs=>(pJ hv p true _ n s h2 (hw.add hv h1) hs).1 rfl⟩
   ·exact(pJ hv rest false L (n+1) st h3 hw ha.2).2 rfl j hj
 |.ends,b,L,n,st,h,hw,ha=>by
  simp only[jG,Bool.not_eq_true'] at h
  exact⟨fun hb=>by rw[hb] at h;simp at h,fun _ i hi=>by simp[cW.alts] at hi⟩
theorem aa.gZ{id:Nat}{l:List Oper}{Q:Exit→St→Prop}{st:St}(x:cW)(anc:List (List Nat))(ds:List Tmp)(hm:E.P.follows .mixedOrders=true)
 (hx:(gD l.toArray anc&&jG E.P l.toArray anc true x (Array.replicate l.toArray.size false) l.toArray.size)=true) (h:gg E l.toArray (lx (Q .normal)) x (st.dY ds)):aa E (.region id l.toArray true) Q st:=fun w0 im0 cx a w h0 hG r=>by
 simp only[Bool.and_eq_true] at hx
 have r':Rel w0 im0 cx st a w.drew:=⟨r.defers,r.size,r.tmps,r.below.drew,r.di,r.dq,r.cu,r.ca,fun i g k es h1 h2=>let h3:=r.own i g k es h1 h2;⟨h3.new,h3.im,h3.bc⟩,r.cA,r.tail,fun t T b h1 h2=>let h3:=r.tok t T b h1 h2;⟨h3.new,h3.room,h3.im,h3.bc⟩,r.apart,r.dB,r.up,r.hole⟩
 have r2:=r'.Ae ds.length (l:=iV ds st.own.length) (fun d i hmem=>(mF hmem).2)
 refine wp_region_any hm (sR h0 hG (K:=lx (Q .normal)) (fun a' w' hh=>?_) _ _ (st.dY ds) _ a _ r2 ?_)
 ·obtain⟨c',st',r3,hk⟩:=hh
  exact⟨c',{ st' with bZ:=none },⟨r3.defers,r3.size,r3.tmps,r3.below,r3.di,r3.dq,r3.cu,r3.ca,r3.own,r3.cA,r3.tail,r3.tok,r3.apart,r3.dB,r3.up,fun l d i e=>by cases e⟩,hk⟩
 ·refine((pJ hx.1 x true _ _ _ hx.2 ?_ h).1 rfl).drop
  intro m hm
  exfalso
  simp only[Array.getD_eq_getD_getElem?,Array.getElem?_replicate] at hm
  split at hm<;>simp at hm
@[go_sem] theorem Za{st:St}:gg E ops K .done st=K st:=rfl
@[go_sem] theorem Zw{st:St}{i:Nat}{p:cW}:gg E ops K (.take i p) st=(gz st ops[i]?∧cI E ops (ops[i]?).toList st (gg E ops K p)):=by
 show(_∧bJ E ops i (gg E ops K p) st)=_
 rw[pM]
@[go_sem] theorem Zq{st:St}{p:cW}:gg E ops K (.fork p) st=gg E ops K p st:=rfl
@[go_sem] theorem ZI{st:St}{i:Nat}{p r:cW}:gg E ops K (.alt i p r) st=((gz st ops[i]?∧cI E ops (ops[i]?).toList st (gg E ops K p))∧gg E ops K r st):=by
 show((_∧bJ E ops i (gg E ops K p) st)∧_)=_
 rw[pM]
@[go_sem] theorem ZH{st:St}:gg E ops K .ends st=True:=rfl
end
attribute [go_sem] gz vN
end Go.Abs
namespace Go.Abs
open Go Go.RowKit
def pX(E:Env)(o:Oper)(C:St→Prop)(st:St):Prop:=o.guard=none∧
 ((∃t e k n,o.op= .buildSlice t 0 #[]∧dd E.P t=some (e,k,n)∧C (St.put { st with own:=st.own++[some []] } o.dst (.mu st.own.length k 0 0 0)))∨
  ∃t tx x y e k n id xs,o.op= .call ⟨.builtin .append,#[x,y],#[t,tx]⟩∧eI E.P tx=true∧dd E.P t=some (e,k,n)∧st.ev x= .mu id k 0 0 0∧iu (st.ev y) k=some xs∧st.own[id]?=some (some [])∧xs.length≤4611686018427387904∧xs.length*n≤140737488355328∧
   ∀m,C (St.put { st with own:=st.own.set id none++[some (xs++spare k m)] } o.dst (.mu st.own.length k 0 xs.length (xs.length+m))))
def k9(E:Env)(ops:Array Oper)(ms:List Nat)(i:Nat)(C:St→Prop)(st:St):Prop:=if ms.contains i=true then ∃o,ops[i]?=some o∧pX E o C st else gz st ops[i]?∧bJ E ops i C st
def gF(E:Env)(ops:Array Oper)(ms:List Nat)(K:St→Prop):cW→St→Prop
 |.done,st=>K st
 |.take i p,st=>k9 E ops ms i (gF E ops ms K p) st
 |.fork p,st=>gF E ops ms K p st
 |.alt i p rest,st=>k9 E ops ms i (gF E ops ms K p) st∧gF E ops ms K rest st
 |.ends,_=>True
section
variable{E:Env}{ops:Array Oper}{ms:List Nat}{K:St→Prop}{anc:List (List Nat)}
theorem pX.mono{o:Oper}{C D:St→Prop}{st:St}(h:pX E o C st)(hk:∀s,C s→D s):pX E o D st:=by
 obtain⟨hg,⟨t,e,k,n,ho,ha,hc⟩|⟨t,tx,x,y,e,k,n,id,xs,ho,h1,h2,h3,h4,h5,h6,h7,hc⟩⟩:=h
 ·exact⟨hg,.inl ⟨t,e,k,n,ho,ha,hk _ hc⟩⟩
 ·exact⟨hg,.inr ⟨t,tx,x,y,e,k,n,id,xs,ho,h1,h2,h3,h4,h5,h6,h7,fun m=>hk _ (hc m)⟩⟩
theorem k9.mono{i:Nat}{C D:St→Prop}{st:St}(hk:k9 E ops ms i C st)(h:∀s,C s→D s):k9 E ops ms i D st:=by
 unfold k9 at *
 split
 ·rename_i hi;rw[if_pos hi] at hk;obtain⟨o,h1,h2⟩:=hk;exact⟨o,h1,h2.mono h⟩
 ·rename_i hi;rw[if_neg hi] at hk;exact⟨hk.1,hk.2.mono h⟩
@[go_sem] theorem Zz{st:St}:gF E ops ms K .done st=K st:=rfl
def mA(E:Env)(o:Option Oper)(C:St→Prop)(st:St):Prop:=match o with
 |some o=>pX E o C st
 |none=>False
theorem wR{i:Nat}{C:St→Prop}{st:St}:k9 E ops ms i C st=if ms.contains i=true then mA E (ops[i]?) C st else(gz st ops[i]?∧cI E ops (ops[i]?).toList st C):=by
 unfold k9
 split
 ·cases ops[i]? with
  |none=>simp[mA]
  |some o=>simp[mA]
 ·rw[pM]
@[go_sem] theorem Z9{st:St}{i:Nat}{p:cW}:gF E ops ms K (.take i p) st=if ms.contains i=true then mA E (ops[i]?) (gF E ops ms K p) st else(gz st ops[i]?∧cI E ops (ops[i]?).toList st (gF E ops ms K p)):=wR
@[go_sem] theorem Zb{st:St}{p:cW}:gF E ops ms K (.fork p) st=gF E ops ms K p st:=rfl
@[go_sem] theorem Zu{st:St}{i:Nat}{p r:cW}:gF E ops ms K (.alt i p r) st=((if ms.contains i=true then mA E (ops[i]?) (gF E ops ms K p) st else(gz st ops[i]?∧cI E ops (ops[i]?).toList st (gF E ops ms K p)))∧gF E ops ms K r st):=by
 show(k9 E ops ms i (gF E ops ms K p) st∧_)=_
 rw[wR]
@[go_sem] theorem ZT{st:St}:gF E ops ms K .ends st=True:=rfl
def wv(x:AV)(k n:Nat)(src:Option (List AV))(st:St)(C:St→AV→Prop):Prop:=match x with
 |.mu id q off len cap=>q=k∧off=0∧len=0∧cap=0∧aM src fun xs=>xs.length≤4611686018427387904∧xs.length*n≤140737488355328∧lq st.own[id]? fun l=>l=[]∧
   ∀m,C { st with own:=st.own.set id none++[some (xs++spare k m)] } (.mu st.own.length k 0 xs.length (xs.length+m))
 |_=>False
@[go_sem] theorem Zc{d:Option Tmp}{t ty:TypeId}{pos:String}{after:Array Edge}{C:St→Prop}{st:St}:mA E (some ⟨d,.buildSlice t 0 #[],ty,pos,after,none⟩) C st=aM (dd E.P t) fun q=>C (St.put { st with own:=st.own++[some []] } d (.mu st.own.length q.2.1 0 0 0)):=by
 refine propext ⟨?_,?_⟩
 ·rintro⟨_,⟨t',e,k,n,ho,ha,hc⟩|⟨_,_,_,_,_,_,_,_,_,ho,_⟩⟩
  ·cases ho;exact⟨_,ha,hc⟩
  ·cases ho
 ·rintro⟨⟨e,k,n⟩,ha,hc⟩
  exact⟨rfl,.inl ⟨t,e,k,n,rfl,ha,hc⟩⟩
@[go_sem] theorem ZJ{d:Option Tmp}{t tx ty:TypeId}{x y:Operand}{pos:String}{after:Array Edge}{C:St→Prop}{st:St}:mA E (some ⟨d,.call ⟨.builtin .append,#[x,y],#[t,tx]⟩,ty,pos,after,none⟩) C st =
   (eI E.P tx=true∧aM (dd E.P t) fun q=>wv (st.ev x) q.2.1 q.2.2 (iu (st.ev y) q.2.1) st fun st' z=>C (st'.put d z)):=by
 refine propext ⟨?_,?_⟩
 ·rintro⟨_,⟨_,_,_,_,ho,_⟩|⟨t',tx',x',y',e,k,n,id,xs,ho,h1,h2,h3,h4,h5,h6,h7,hc⟩⟩
  ·cases ho
  ·cases ho
   refine⟨h1,_,h2,?_⟩
   rw[h3]
   exact⟨rfl,rfl,rfl,rfl,_,h4,h6,h7,_,h5,rfl,hc⟩
 ·rintro⟨h1,⟨e,k,n⟩,h2,h3⟩
  unfold wv at h3
  split at h3
  ·rename_i id q off len cap hx
   obtain⟨rfl,rfl,rfl,rfl,xs,h4,h6,h7,l,h5,rfl,hc⟩:=h3
   exact⟨rfl,.inr ⟨t,tx,x,y,e,_,n,id,xs,rfl,h1,h2,hx,h4,h5,h6,h7,hc⟩⟩
  ·exact h3.elim
end
attribute [go_sem] wv
end Go.Abs
namespace Go.Abs
open Go Go.RowKit
structure Cut(p:Prop):Prop where
 out:p
theorem aa.cutAt{E:Env}{Q:Exit→St→Prop}{K:St→Prop}{st:St}{x y:Code}{ι:Type}(hv:List Nat)(ps:ι→List (Nat×AV))(own:ι→List (Option (List AV)))(tk:ι→List Nat)(hK:∀s,aa E y Q s→K s)
 (rest:∀i,Cut (aa E y Q (st.at hv (ps i) (own i) (tk i)))) (h:(∀i,aa E y Q (st.at hv (ps i) (own i) (tk i)))→aa E x (jc K Q) st):aa E x (jc K Q) st:=h fun i=>(rest i).out
theorem aa.ky{E:Env}{y:Code}{Q:Exit→St→Prop}{ι:Type}{S:ι→St}(hc:∀i,aa E y Q (S i)){s:St}(h:aa E y Q s):aa E y Q s:=h
end Go.Abs
namespace Go.Abs
open Go Go.RowKit
theorem an.native{E:Env}{Q:Exit→St→Prop}{st:St}{ops:Array Oper}{l:List Oper}{dst:Option Tmp}{ty:TypeId}{pos:String}{after:Array Edge}{g:FuncId}{args:Array Operand}{tys:Array TypeId}(vs:List Value)(u:Value)(y:AV)
 (hev:args.toList.map st.ev=vs.map AV.v) (hrun:∀w,(callFunc g vs.toArray).run E.P w= .ok (.value u) w) (hy:∀c,VR c y u)
 (h:an E ops l Q (st.put dst y)):an E ops (⟨dst,.call ⟨.value (.func g),args,tys⟩,ty,pos,after,none⟩::l) Q st:=by
 intro w0 im0 cx a w h0 hG r
 refine wpList_step (fun K' hK'=>?_)
 have hw:Region.wanted ⟨dst,.call ⟨.value (.func g),args,tys⟩,ty,pos,after,none⟩ (yielded ops a.tmps)=true:=rfl
 rw[if_pos hw]
 have hargs:Array.map a.eval args=vs.toArray:=by
  apply Array.ext'
  rw[Array.toList_map]
  have hl:args.toList.length=vs.length:=by have:=congrArg List.length hev;simpa using this
  apply List.ext_getElem?
  intro i
  rw[List.getElem?_map]
  cases hi:args.toList[i]? with
  |none=>
   have:args.toList.length≤i:=List.getElem?_eq_none_iff.1 hi
   rw[Option.map_none];symm;exact List.getElem?_eq_none_iff.2 (by show vs.length≤i;omega)
  |some x=>
   have h1:=congrArg (fun l=>l[i]?) hev
   simp only[List.getElem?_map,hi,Option.map_some] at h1
   cases hv:vs[i]? with
   |none=>rw[hv] at h1;simp at h1
   |some v=>
    rw[hv] at h1
    simp only[Option.map_some,Option.some.injEq] at h1
    have h2:=r.ev x
    rw[h1] at h2
    rw[Option.map_some,h2.bD,←hv]
 refine eT (w':=w) (v:=u) ?_ (hK' _ _ (h w0 im0 _ _ _ h0 hG (r.put dst (hy _))))
 have he':a.eval (.func g)= .func (.func g) #[] #[]:=rfl
 simp only[execOp,resolve,he',Deferred.ofValue,Sem.run_bind,Sem.run_pure,Result.andThen_ok,invoke,Array.empty_append,Array.append_empty,hargs,hrun]
end Go.Abs
namespace Go.Abs
open Go Go.RowKit
theorem S5{z:Array Value}{n:Nat}(h:z.toList.all (·.oneCell')=true):∀u∈(Builtin.zeroCells z n).toList,u.oneCell'=true:=by
 intro u hu
 obtain⟨i,hi,rfl⟩:=List.mem_iff_getElem.1 hu
 have hi2:i<n*z.size:=by simpa[Builtin.zeroCells] using hi
 have hz:0<z.size:=by
  rcases Nat.eq_zero_or_pos z.size with h0|h0
  ·rw[h0] at hi2;simp at hi2
  ·exact h0
 have hlt:=Nat.mod_lt i hz
 simp only[Builtin.zeroCells,Array.getElem_toList,Array.getElem_map,Array.getElem_range]
 rw[getElem!_pos z _ hlt]
 exact List.all_eq_true.1 h _ aD
theorem an.CV{E:Env}{Q:Exit→St→Prop}{st:St}{ops:Array Oper}{l:List Oper}{t ty:TypeId}{x:Operand}{pos:String}{after:Array Edge}{e:TypeId}{k n id len cap:Nat}{A B:List AV}
 (hai:dd E.P t=some (e,k,n)) (hone:(((E.P.info? e).bind (·.zero)).map fun zv=>zv.cells.toList.all (·.oneCell'))=some true)
 (hs:st.ev x= .mu id k A.length (len+1) cap) (ho:st.own[id]?=some (some (A++B))) (hlen:len+1≤B.length)
 (h:an E ops l Q { st with own:=st.own.set id (some (A++spare k B.length)) }):an E ops (⟨none,.call ⟨.builtin .clear,#[x],#[t]⟩,ty,pos,after,none⟩::l) Q st:=by
 intro w0 im0 cx a w h0 hG r
 refine wpList_step (fun K' hK'=>?_)
 have hw:Region.wanted ⟨none,.call ⟨.builtin .clear,#[x],#[t]⟩,ty,pos,after,none⟩ (yielded ops a.tmps)=true:=rfl
 rw[if_pos hw]
 obtain⟨hu,hss,hk0,i,zv,hi,hz,hsize,hbytes,hzs⟩:=jf hai
 have hv:=r.ev x
 rw[hs] at hv
 rcases hv.c0 with⟨g,hb,hcap,hve⟩|⟨hz1,_,_⟩
 rotate_left
 ·omega
 have hown:=r.own id g k _ hb ho
 obtain⟨cs,ty',lo,hi',hblk,hfr,hsz,hlv,hcell⟩:=hown.bc
 have hoc:cH cx k (A++B) cs.toList:=⟨hlv,fun i e j x he hx=>by obtain⟨u,h1,h2⟩:=hcell i e j x he hx;exact⟨u,by simpa using h1,h2⟩⟩
 have hoc1:=hoc.take
 rw[List.length_append] at hsz
 have hesz:A.length*k≤cs.size:=by rw[Nat.add_mul] at hsz;omega
 have hol:(cs.toList.take (A.length*k)).length=A.length*k:=by have hq:cs.toList.length=cs.size:=Array.length_toList;rw[List.length_take,hq];omega
 have hfro:∀o,o<cs.toList.length→¬(lo≤o∧o<hi'):=fun o h1 h2=>by
  have h1:o<cs.size:=by simpa using h1
  rcases hfr with h|h<;>omega
 have hcs:cs=cs.toList.toArray:=by simp
 have hz1:zv.cells.toList.all (·.oneCell')=true:=by
  rw[hi] at hone;simp only[Option.bind_some,hz,Option.map_some,Option.some.injEq] at hone;exact hone
 have hnl:(Builtin.zeroCells zv.cells (len+1)).toList.length=(len+1)*k:=by rw[Array.length_toList,ou,hzs]
 have hmul:(len+1)*k≤B.length*k:=Nat.mul_le_mul_right _ hlen
 have hfit2:A.length*k+0+(Builtin.zeroCells zv.cells (len+1)).toList.length≤cs.toList.length:=by
  have hq:cs.toList.length=cs.size:=Array.length_toList
  rw[hnl,hq,Nat.add_zero];rw[Nat.add_mul] at hsz;omega
 have hst:=lT (P:=E.P) g (A.length*k) ty' lo hi' (Builtin.zeroCells zv.cells (len+1)).toList 0 cs.toList w (by rw[←hcs];exact hblk) hfro hfit2 (S5 hz1)
 rw[Nat.add_zero] at hst
 have hrun:(Builtin.clear_ #[t] ty #[a.eval x]).run E.P w= .ok (.tuple #[]) (w.setRow g (cn cs.toList (A.length*k) (Builtin.zeroCells zv.cells (len+1)).toList).toArray):=by
  rw[hve]
  have hzr:(zeroValue e).run E.P w= .ok zv w:=by simp[zeroValue,typeInfo,hi,hz]
  unfold Builtin.clear_
  simp only[List.getElem?_toArray,List.getElem?_cons_zero,Sem.run_bind,b6 hu,Result.andThen_ok,hzr]
  (try simp only[fQ,Nat.zero_add] at hst)
  simp[hst]
 have hcs'len:(cn cs.toList (A.length*k) (Builtin.zeroCells zv.cells (len+1)).toList).length=cs.size:=by rw[gB];simp
 have hOC:cH cx k (A++spare k B.length) (cn cs.toList (A.length*k) (Builtin.zeroCells zv.cells (len+1)).toList):=by
  have e1:cn cs.toList (A.length*k) (Builtin.zeroCells zv.cells (len+1)).toList=cs.toList.take (A.length*k)++(cn cs.toList (A.length*k) (Builtin.zeroCells zv.cells (len+1)).toList).drop (A.length*k):=by
   apply List.ext_getElem?
   intro p
   by_cases hp:p<A.length*k
   ·rw[List.getElem?_append_left (by rw[hol];exact hp),jI _ _ _ _ (by simpa using hfit2),if_neg ab,List.getElem?_take,if_pos hp]
   ·rw[List.getElem?_append_right (by rw[hol];omega),hol,List.getElem?_drop];congr 1;omega
  rw[e1]
  exact hoc1.append hol (cH.spare (by rw[List.length_drop,hcs'len];rw[Nat.add_mul] at hsz;omega))
 have hset:=r.l9 (w':=w.setRow g (cn cs.toList (A.length*k) (Builtin.zeroCells zv.cells (len+1)).toList).toArray) (es':=A++spare k B.length) hb ho (fun b hne=>setRow_other w g b _ hne) (below_setRow r.below hown.new _)
  ⟨(cn cs.toList (A.length*k) (Builtin.zeroCells zv.cells (len+1)).toList).toArray,ty',lo,hi',setRow_heap w g cs _ ty' (lo,hi') hblk,by
    rcases hfr with h|h
    ·exact .inl h
    ·exact .inr (by simpa[gB] using h),by
    simp only[List.size_toArray,hcs'len,List.length_append,cJ];exact hsz,hOC.1,fun i e j x he hx=>by
    obtain⟨u,h1,h2⟩:=hOC.2 i e j x he hx
    exact⟨u,by simpa using h1,h2⟩⟩
 refine eT (w':=_) (v:= .tuple #[]) ?_ (hK' _ _ (h w0 im0 _ _ _ h0 hG (hset.put none (.base (.v _)))))
 simp only[execOp,resolve,Sem.run_bind,Sem.run_pure,Result.andThen_ok,invoke,builtin,List.map_toArray,List.map_cons,List.map_nil,hrun]
theorem an.j5{E:Env}{Q:Exit→St→Prop}{st:St}{ops:Array Oper}{rest:List Oper}{dst:Option Tmp}{t ty:TypeId}{x lo:Operand}{pos:String}{after:Array Edge}{e:TypeId}{k id off len cap l:Nat}
 (hu:E.P.underlying t=some (.slice e)) (hsz:bK E.P e=some k) (hs:st.ev x= .mu id k off len cap) (hl:st.ev lo=i64 (l:Int)) (h1:l≤len) (h2:l<cap) (h0:0<len)
 (h:an E ops rest Q (st.put dst (.mu id k (off+l) (len-l) (cap-l)))):an E ops (⟨dst,.slice t x (some lo) none none,ty,pos,after,none⟩::rest) Q st:=by
 intro w0 im0 cx a w h0' hG r
 refine wpList_step (fun K' hK'=>?_)
 have hw:Region.wanted ⟨dst,.slice t x (some lo) none none,ty,pos,after,none⟩ (yielded ops a.tmps)=true:=rfl
 rw[if_pos hw]
 have hv:=r.ev x
 rw[hs] at hv
 have hlv:=r.ev lo
 rw[hl] at hlv
 have hlo:=hlv.bD
 rcases hv.c0 with⟨g,hb,hcap,hve⟩|⟨hz,_,_⟩
 rotate_left
 ·omega
 have hbr:=mC (P:=E.P) (w:=w) (c:=cx) (isS:=true) (len:=len) (cap:=cap) (lo:=some (i64 (l:Int))) (hi:=none) (vl:=some (a.eval lo)) (vh:=none) (l:=(l:Int)) (h:=(len:Int))
  (fun y hy=>by cases hy;exact⟨_,rfl,hlv⟩) (fun hy=>by cases hy) (fun y hy=>by cases hy) (fun _=>rfl) rfl rfl ab ab ab hcap
 have hrun:(Instr.sliceAt t (a.eval x) (some (a.eval lo)) none none).run E.P w= .ok (.slice (some ⟨g,(off+l)*k,none⟩) (len-l) (cap-l)) w:=by
  rw[hve]
  simp only[Instr.sliceAt,Sem.run_bind,b6 hu,Result.andThen_ok,Instr.slice,hbr,dO hsz,Sem.run_pure]
  have hne:¬cap=l:=by omega
  simp[hne,Addr.add,Nat.add_mul]
 refine eT (w':=w) (v:= .slice (some ⟨g,(off+l)*k,none⟩) (len-l) (cap-l)) ?_ (hK' _ _ (h w0 im0 _ _ _ h0' hG (r.put dst (.mu hb ab))))
 simp only[execOp,Option.map_some,Option.map_none,Sem.run_bind,hrun,Result.andThen_ok,Sem.run_pure]
end Go.Abs
end
section
namespace Go.Proofs
open Go.Shelf
def Tryz.GD:Go.Shelf.Ren:=⟨fun|264=>161|n=>n,fun|53=>201|46=>205|n=>n,fun|n=>n⟩
theorem Tryz.Lp:Go.Proofs.Lays.n264 Tryz.prog Tryz.GD:={
 mixed:=by kernel_rfl
 f264:=Tryz.func161.trans (congrArg some af)
 t46:=Tryz.underlying205
 a46:=Tryz.isAgg205
 z46:=Tryz.sizeOf205
 v46:=Tryz.zeroValue205
 t53:=Tryz.underlying201
 a53:=Tryz.isAgg201
 z53:=Tryz.sizeOf201
 v53:=Tryz.zeroValue201 }
open Go.RowKit Go.Lib in
theorem Tryz.bits_Mul64(x y:Nat)(hx:x<18446744073709551616)(hy:y<18446744073709551616)(w:World):
 Calls Tryz.prog 161 #[.int .u64 x,.int .u64 y] w fun e w'=>e= .returned (.tuple #[.int .u64 ((x*y/18446744073709551616:Nat):Int),.int .u64 ((x*y%18446744073709551616:Nat):Int)])∧w'=w:=Any.bits_Mul64 Tryz.Lp x y hx hy w
def Tryz.tQ:Go.Shelf.Ren:=⟨fun|6=>98|8=>164|9=>103|11=>196|13=>169|12=>168|23=>205|24=>206|14=>197|15=>198|16=>199|17=>200|18=>201|19=>202|20=>166|21=>203|22=>204|25=>228|26=>229|27=>230|28=>231|29=>232|30=>183|31=>254|n=>n,fun|26=>9|28=>145|24=>24|0=>0|3=>3|37=>205|48=>53|50=>201|4=>4|40=>226|39=>225|45=>148|5=>5|9=>9|51=>243|55=>247|57=>263|58=>264|33=>195|n=>n,fun|n=>n⟩
theorem Tryz.UM:Go.Proofs.SlLaysZ.n6 Tryz.prog Tryz.tQ:={
 mixed:=by kernel_rfl
 f6:=⟨Tryz.f98.name,by decide,Tryz.func98.trans (congrArg some af)⟩
 f8:=⟨Tryz.f164.name,by decide,Tryz.func164.trans (congrArg some af)⟩
 f11:=⟨Tryz.f196.name,by decide,Tryz.func196.trans (congrArg some af)⟩
 t0:=Tryz.underlying0
 a0:=Tryz.isAgg0
 z0:=Tryz.sizeOf0
 v0:=Tryz.zeroValue0
 t24:=Tryz.underlying24
 a24:=Tryz.isAgg24
 z24:=Tryz.sizeOf24
 v24:=Tryz.zeroValue24
 t26:=Tryz.underlying9
 a26:=Tryz.isAgg9
 z26:=Tryz.sizeOf9
 v26:=Tryz.zeroValue9
 t28:=Tryz.underlying145
 a28:=Tryz.isAgg145
 z28:=Tryz.sizeOf145
 v28:=Tryz.zeroValue145
 i26:=by kernel_rfl }
def Tryz.Qg:Go.Shelf.Ren:=⟨fun|6=>103|8=>169|9=>168|19=>205|20=>206|21=>197|22=>198|23=>199|24=>200|25=>201|26=>202|27=>166|28=>203|29=>204|36=>228|31=>229|32=>230|37=>231|38=>232|39=>183|41=>254|n=>n,fun|27=>24|29=>9|3=>3|32=>205|26=>24|0=>0|44=>53|46=>201|4=>4|36=>226|35=>225|41=>148|5=>5|9=>9|53=>243|57=>247|63=>263|64=>264|n=>n,fun|n=>n⟩
theorem Tryz.ru:Go.Proofs.SlLaysM.n6 Tryz.prog Tryz.Qg:={
 mixed:=by kernel_rfl
 f6:=⟨Tryz.f103.name,by decide,Tryz.func103.trans (congrArg some af)⟩
 f8:=Tryz.func169.trans (congrArg some af)
 f9:=⟨Tryz.f168.name,by decide,Tryz.func168.trans (congrArg some af)⟩
 f19:=Tryz.func205.trans (congrArg some af)
 f20:=Tryz.func206.trans (congrArg some af)
 f21:=⟨Tryz.f197.name,by decide,Tryz.func197.trans (congrArg some af)⟩
 f22:=⟨Tryz.f198.name,by decide,Tryz.func198.trans (congrArg some af)⟩
 f23:=⟨Tryz.f199.name,by decide,Tryz.func199.trans (congrArg some af)⟩
 f24:=⟨Tryz.f200.name,by decide,Tryz.func200.trans (congrArg some af)⟩
 f25:=⟨Tryz.f201.name,by decide,Tryz.func201.trans (congrArg some af)⟩
 f26:=⟨Tryz.f202.name,by decide,Tryz.func202.trans (congrArg some af)⟩
 f27:=⟨Tryz.f166.name,by decide,Tryz.func166.trans (congrArg some af)⟩
 f28:=⟨Tryz.f203.name,by decide,Tryz.func203.trans (congrArg some af)⟩
 f29:=⟨Tryz.f204.name,by decide,Tryz.func204.trans (congrArg some af)⟩
 f31:=Tryz.func229.trans (congrArg some af)
 f32:=Tryz.func230.trans (congrArg some af)
 f36:=⟨Tryz.f228.name,by decide,Tryz.func228.trans (congrArg some af)⟩
 f37:=⟨Tryz.f231.name,by decide,Tryz.func231.trans (congrArg some af)⟩
 f38:=⟨Tryz.f232.name,by decide,Tryz.func232.trans (congrArg some af)⟩
 f39:=⟨Tryz.f183.name,by decide,Tryz.func183.trans (congrArg some af)⟩
 f41:=⟨Tryz.f254.name,by decide,Tryz.func254.trans (congrArg some af)⟩
 t0:=Tryz.underlying0
 a0:=Tryz.isAgg0
 z0:=Tryz.sizeOf0
 v0:=Tryz.zeroValue0
 t3:=Tryz.underlying3
 a3:=Tryz.isAgg3
 z3:=Tryz.sizeOf3
 v3:=Tryz.zeroValue3
 t4:=Tryz.underlying4
 a4:=Tryz.isAgg4
 z4:=Tryz.sizeOf4
 v4:=Tryz.zeroValue4
 t5:=Tryz.underlying5
 a5:=Tryz.isAgg5
 z5:=Tryz.sizeOf5
 v5:=Tryz.zeroValue5
 t9:=Tryz.underlying9
 a9:=Tryz.isAgg9
 z9:=Tryz.sizeOf9
 v9:=Tryz.zeroValue9
 t26:=Tryz.underlying24
 a26:=Tryz.isAgg24
 z26:=Tryz.sizeOf24
 v26:=Tryz.zeroValue24
 t27:=Tryz.underlying24
 a27:=Tryz.isAgg24
 z27:=Tryz.sizeOf24
 v27:=Tryz.zeroValue24
 t29:=Tryz.underlying9
 a29:=Tryz.isAgg9
 z29:=Tryz.sizeOf9
 v29:=Tryz.zeroValue9
 t32:=Tryz.underlying205
 a32:=Tryz.isAgg205
 z32:=Tryz.sizeOf205
 v32:=Tryz.zeroValue205
 t35:=Tryz.underlying225
 a35:=Tryz.isAgg225
 z35:=Tryz.sizeOf225
 v35:=Tryz.zeroValue225
 t36:=Tryz.underlying226
 a36:=Tryz.isAgg226
 z36:=Tryz.sizeOf226
 v36:=Tryz.zeroValue226
 t41:=Tryz.underlying148
 a41:=Tryz.isAgg148
 z41:=Tryz.sizeOf148
 v41:=Tryz.zeroValue148
 t44:=Tryz.underlying53
 a44:=Tryz.isAgg53
 z44:=Tryz.sizeOf53
 v44:=Tryz.zeroValue53
 t46:=Tryz.underlying201
 a46:=Tryz.isAgg201
 z46:=Tryz.sizeOf201
 v46:=Tryz.zeroValue201
 t53:=Tryz.underlying243
 a53:=Tryz.isAgg243
 z53:=Tryz.sizeOf243
 v53:=Tryz.zeroValue243
 t57:=Tryz.underlying247
 a57:=Tryz.isAgg247
 z57:=Tryz.sizeOf247
 v57:=Tryz.zeroValue247
 t63:=Tryz.underlying263
 a63:=Tryz.isAgg263
 z63:=Tryz.sizeOf263
 v63:=Tryz.zeroValue263
 t64:=Tryz.underlying264
 a64:=Tryz.isAgg264
 z64:=Tryz.sizeOf264
 v64:=Tryz.zeroValue264 }
end Go.Proofs
end
section
namespace Go.Proofs.YtajeeghgiilhiaaGreat
open Go Go.Abs Go.RowKit Go.Bk
theorem Ai{im:Im}(a b:Value):aX im (.aC [.v a,.v b]) (.tuple #[a,b]):= .aC [_,_] [_,_] rfl (fun i c u h1 h2=>by
 match i with
 |0=>simp at h1 h2;subst h1;subst h2;exact .v _
 |1=>simp at h1 h2;subst h1;subst h2;exact .v _
 |i+2=>simp at h1)
theorem AM{c:Ctx}(a b:Value):VR c (.aC [.v a,.v b]) (.tuple #[a,b]):= .base (Ai a b)
theorem YH(x y:Nat)(hx:x<18446744073709551616)(hy:y<18446744073709551616):ai E 161 [.v (.int .u64 x),.v (.int .u64 y)] (fun r t=>r= .aC [.v (.int .u64 ((x*y/18446744073709551616:Nat):Int)),.v (.int .u64 ((x*y%18446744073709551616:Nat):Int))]∧t=[]):=
 ai.FD (E:=E) (f:=161) (xs:=[.int .u64 x,.int .u64 y]) (S:=fun v=>v= .tuple #[.int .u64 ((x*y/18446744073709551616:Nat):Int),.int .u64 ((x*y%18446744073709551616:Nat):Int)])
  (fun w _=>(Tryz.bits_Mul64 x y hx hy w).mono (by rintro e w' ⟨rfl,rfl⟩;exact⟨⟨_,rfl,rfl⟩,rfl⟩))
  (by rintro v rfl;exact⟨_,fun _=>Ai _ _,rfl,rfl⟩)
theorem AX(x y c:Int)(hx:0≤x)(hx2:x<bI)(hy:0≤y)(hy2:y<bI)(hc:0≤c)(hc2:c≤1)(w:World):(callFunc 188 #[.int .u64 x,.int .u64 y,.int .u64 c]).run E.P w= .ok (.value (.tuple #[.int .u64 ((x+y+c)%bI),.int .u64 ((x+y+c)/bI)])) w:=by
 obtain⟨x,rfl⟩:=Int.eq_ofNat_of_zero_le hx
 obtain⟨y,rfl⟩:=Int.eq_ofNat_of_zero_le hy
 obtain⟨c,rfl⟩:=Int.eq_ofNat_of_zero_le hc
 unfold bI at *
 show(callFunc 188 _).run Tryz.prog w=_
 rw[run_callFunc_extern Tryz.func188 af af af (e:=add64Entry) af,run_add64 x y c ab ab ab ab]
 simp only[Result.andThen]
 (try congr 5<;>omega)
theorem EY{l:List Int}{i:Nat}{n:Int}(hn:l[i]?=some n)(w:World):(callFunc 188 [.int .u64 (dH (bC (l.take i))),.int .u64 (IntKind.u64.wrap n),.int .u64 0].toArray).run E.P w= .ok (.value (.tuple #[.int .u64 (dH (bC (l.take (i+1)))),.int .u64 ((dH (bC (l.take i))+n%bI)/bI)])) w:=by
 have h1:=vg (bC (l.take i))
 have h2:0≤n%bI∧n%bI<bI:=⟨Int.emod_nonneg _ ay,Int.emod_lt_of_pos _ ay⟩
 rw[o0]
 refine(AX _ _ 0 h1.1 h1.2 h2.1 h2.2 ab ab w).trans ?_
 rw[Int.add_zero,JJ,cF hn,nu]
 simp[bC]
theorem DN{l:List Int}{i:Nat}{n:Int}(hn:l[i]?=some n)(hr:-4611686018427387904≤n∧n≤4611686018427387904)(w:World):(callFunc 188 [.int .u64 (gI (bC (l.take i))),.int .u64 (IntKind.u64.wrap (n.fdiv (2^(min 63 64)))),.int .u64 ((dH (bC (l.take i))+n%bI)/bI)].toArray).run E.P w =
 .ok (.value (.tuple #[.int .u64 (gI (bC (l.take (i+1)))),.int .u64 ((gI (bC (l.take i))+(n/9223372036854775808)%bI+(dH (bC (l.take i))+n%bI)/bI)/bI)])) w:=by
 have h1:=MC (bC (l.take i))
 have h2:0≤(n/9223372036854775808)%bI∧(n/9223372036854775808)%bI<bI:=⟨Int.emod_nonneg _ ay,Int.emod_lt_of_pos _ ay⟩
 have h3:=Xk (bC (l.take i)) n
 rw[o0,show(2:Int)^(min 63 64)=9223372036854775808 by decide,Int.fdiv_eq_ediv_of_nonneg _ ab]
 refine(AX _ _ _ h1.1 h1.2 h2.1 h2.2 ab ab w).trans ?_
 rw[Rc ab ab,cF hn,nu]
 simp[bC]
theorem Jy{l:List Int}{i:Nat}{n:Int}(hn:l[i]?=some n)(h:(l.take i).all aY=true)(h2:aY n=true):(l.take (i+1)).all aY=true:=by
 rw[cF hn,List.all_append,h];simp[h2]
section
variable{a b:Int}
theorem tf(h:aY a=false):cf a b=(0,false):=by unfold cf;simp[h]
theorem uV(h:aY b=false):cf a b=(0,false):=by unfold cf;simp[h]
theorem Bd:(a*b).natAbs=a.natAbs*b.natAbs:=Int.natAbs_mul a b
theorem yc(h:¬((a.natAbs*b.natAbs/18446744073709551616:Nat):Int)=0∨(4611686018427387904:Int)<((a.natAbs*b.natAbs%18446744073709551616:Nat):Int)):cf a b=(0,false):=by
 have hm:aY (a*b)=false:=by
  rw[rf];rw[←Bd] at h;omega
 unfold cf;simp[hm]
theorem yT:((a.natAbs*b.natAbs:Nat):Int)=(a.natAbs:Int)*(b.natAbs:Int):=Int.natCast_mul _ _
theorem mul_neg(c:¬decide (a<0)=decide (b<0)):a*b= -((a.natAbs*b.natAbs:Nat):Int):=by
 rw[yT]
 by_cases h1:a<0<;>by_cases h2:b<0
 ·simp[h1,h2] at c
 ·rw[show(a.natAbs:Int)= -a by omega,show(b.natAbs:Int)=b by omega,Int.neg_mul,Int.neg_neg]
 ·rw[show(a.natAbs:Int)=a by omega,show(b.natAbs:Int)= -b by omega,Int.mul_neg,Int.neg_neg]
 ·simp[h1,h2] at c
theorem VI(c:decide (a<0)=decide (b<0)):a*b=((a.natAbs*b.natAbs:Nat):Int):=by
 rw[yT]
 by_cases h1:a<0<;>by_cases h2:b<0
 ·rw[show(a.natAbs:Int)= -a by omega,show(b.natAbs:Int)= -b by omega,Int.neg_mul,Int.mul_neg,Int.neg_neg]
 ·simp[h1,h2] at c
 ·simp[h1,h2] at c
 ·rw[show(a.natAbs:Int)=a by omega,show(b.natAbs:Int)=b by omega]
variable(ha:aY a=true)(hb:aY b=true)(h:((a.natAbs*b.natAbs/18446744073709551616:Nat):Int)=0)(h2:¬(4611686018427387904:Int)<((a.natAbs*b.natAbs%18446744073709551616:Nat):Int))
include ha hb h h2
theorem qI:cf a b=(a*b,true):=by
 have:aY (a*b)=true:=by
  rw[eO];rw[←Bd] at h h2;omega
 unfold cf;rw[ha,hb,this];rfl
theorem Wl(c:¬decide (a<0)=decide (b<0)):IntKind.i64.wrap (0-IntKind.i64.wrap ((a.natAbs*b.natAbs%18446744073709551616:Nat):Int))=(cf a b).1:=by
 rw[qI ha hb h h2,mul_neg c]
 generalize a.natAbs*b.natAbs=p at *
 rw[av (x:=((p%18446744073709551616:Nat):Int)) ab ab,av ab ab];simp only[];omega
theorem MD(c:decide (a<0)=decide (b<0)):IntKind.i64.wrap ((a.natAbs*b.natAbs%18446744073709551616:Nat):Int)=(cf a b).1:=by
 rw[qI ha hb h h2,VI c]
 generalize a.natAbs*b.natAbs=p at *
 rw[av ab ab];simp only[];omega
end
theorem YL(s:Int):IntKind.i64.wrap (dH s)=IntKind.i64.wrap s:=by
 unfold IntKind.wrap dH
 have h3:(s%bI)%(2:Int)^IntKind.i64.bits=s%(2:Int)^IntKind.i64.bits:=by
  show(s%bI)%(2:Int)^64=s%(2:Int)^64
  unfold bI;omega
 exact congrArg (fun r:Int=>if(IntKind.i64.signed&&decide (r≥2^(IntKind.i64.bits-1)))=true then r-2^IntKind.i64.bits else r) h3
section
variable{l:List Int}{i:Nat}(hl:l.length≤1000000)(hi:¬(i:Int)<l.length)(hi2:i≤l.length)(ha:(l.take i).all aY=true)
include hl hi ha
theorem xE(h:gI (bC (l.take i))=IntKind.u64.wrap ((IntKind.i64.wrap (dH (bC (l.take i)))).fdiv (2^min 63 64))):IntKind.i64.wrap (dH (bC (l.take i)))=bC (l.take i):=by
 have hb:=vH ha
 have hlen:(l.take i).length≤1000000:=by rw[List.length_take];omega
 rw[o0,show(2:Int)^(min 63 64)=9223372036854775808 by decide,Int.fdiv_eq_ediv_of_nonneg _ ab] at h
 exact(fits ab ab).1 h
theorem IJ(h:gI (bC (l.take i))=IntKind.u64.wrap ((IntKind.i64.wrap (dH (bC (l.take i)))).fdiv (2^min 63 64)))(c:aY (IntKind.i64.wrap (dH (bC (l.take i))))=false):bF l=(0,false):=by
 rw[xE hl hi ha h] at c
 rw[List.take_of_length_le ab] at c ha
 exact q8 ha c
theorem MM(h:gI (bC (l.take i))=IntKind.u64.wrap ((IntKind.i64.wrap (dH (bC (l.take i)))).fdiv (2^min 63 64)))(c:aY (IntKind.i64.wrap (dH (bC (l.take i))))=true):bF l=(IntKind.i64.wrap (dH (bC (l.take i))),true):=by
 rw[xE hl hi ha h] at c ⊢
 rw[List.take_of_length_le ab] at c ha ⊢
 exact AI ha c
theorem SL(h:¬gI (bC (l.take i))=IntKind.u64.wrap ((IntKind.i64.wrap (dH (bC (l.take i)))).fdiv (2^min 63 64))):bF l=(0,false):=by
 have hb:=vH ha
 have hlen:(l.take i).length≤1000000:=by rw[List.length_take];omega
 rw[o0,show(2:Int)^(min 63 64)=9223372036854775808 by decide,Int.fdiv_eq_ediv_of_nonneg _ ab,fits ab ab,YL] at h
 have hn:aY (bC (l.take i))=false:=by
  rw[rf];intro h2;exact h (av ab ab)
 rw[List.take_of_length_le ab] at ha hn
 exact q8 ha hn
end
theorem pV(n:Int):ai E 105 [i64 n] (fun r t=>r=bl (aY n)∧t=[]):=by
 refine ai.aw (n:=9) (rs:=[.tmp 2]) Tryz.func105 rfl Tryz.ntmps105 rfl ?_
 repeat'(first
 |refine aa.aj fun K hK=>?_
 |(refine aa.region ?_;simp only[go_sem])
 |(refine hK _ ?_;clear hK K)
 |(refine aL.split (fun h=>?_) (fun h=>?_)<;>simp only[h,go_sem]<;>(try simp only[dD] at h))
 |(
  refine aa.ret ?_
  refine aB.is ?_;simp only[go_sem,aE,aI,aH,aG,aJ,aF]<;>(simp[aY, *]<;>omega)))
theorem Np(n:Int)(h:aY n=true):ai E 162 [i64 n] (fun r t=>r= .v (.int .u64 (n.natAbs:Int))∧t=[]):=by
 have hb:=eO.1 h
 refine ai.aw (n:=9) (rs:=[.tmp 2]) Tryz.func162 rfl Tryz.ntmps162 rfl ?_
 repeat'(first
 |refine aa.aj fun K hK=>?_
 |(refine aa.region ?_;simp only[go_sem])
 |(refine hK _ ?_;clear hK K)
 |refine aa.cond rfl (fun c=>?_) (fun c=>?_)<;>(try simp only[dD] at c)
 |refine aa.skip ?_
 |(
  refine aa.ret ?_
  refine aB.is ?_;simp only[go_sem,aE,aI,aH,aG,aJ,aF]<;>(first|(rw[o0];unfold bI;rw[av ab ab];omega)|(rw[o0];unfold bI;omega))))
theorem y4(a b:Int):ai E 95 [i64 a,i64 b] (fun r t=>r= .aC [i64 (cf a b).1,bl (cf a b).2]∧t=[]):=by
 refine ai.aw (n:=41) (rs:=[.tmp 4,.tmp 5]) Tryz.func95 rfl Tryz.ntmps95 rfl ?_
 repeat'(first
 |refine aa.aj fun K hK=>?_
 |(refine aa.region ?_;simp only[go_sem])
 |(refine hK _ ?_;clear hK K)
 |refine aa.cond rfl (fun c=>?_) (fun c=>?_)<;>first|exact Bool.noConfusion c|(try simp only[dD] at c)
 |refine aa.skip ?_
 |(refine ah.one (pV _) af rfl ?_;simp only[go_sem])
 |(refine ah.one (Np _ ae) af rfl ?_;simp only[go_sem])
 |(have ha:=eO.1 (show aY a=true by assumption);have hb:=eO.1 (show aY b=true by assumption);refine ah.one (YH a.natAbs b.natAbs ab ab) af rfl ?_;simp only[go_sem])
 |(refine aL.split (fun h=>?_) (fun h=>?_)<;>simp only[h,go_sem]<;>(try simp only[dD] at h))
 |(
  refine aa.ret ?_
  refine aB.is ?_;simp only[go_sem,aE,aI,aH,aG,aJ,aF]<;>(first
  |(rw[tf ae];simp;done)
  |(rw[uV ae];simp;done)
  |(rw[yc (.inl ae)];simp;done)
  |(rw[yc (.inr ae)];simp;done)
  |(rw[Wl ae ae ae ae ae,qI ae ae ae ae];simp;done)
  |(rw[MD ae ae ae ae ae,qI ae ae ae ae];simp;done))))
theorem qv(l:List Int)(hl:l.length≤1000000):ai E 141 [.sl none 1 (l.map i64)] (fun r t=>r= .aC [i64 (bF l).1,bl (bF l).2]∧t=[]):=by
 refine ai.aw (n:=49) (rs:=[.tmp 2,.tmp 3]) Tryz.func141 rfl Tryz.ntmps141 rfl ?_
 repeat'(first
 |refine aa.aj fun K hK=>?_
 |(
  refine aa.here 4 14 3 rfl ?_
  obtain⟨n,hn⟩:∃n,l[i]?=some n:=⟨_,List.getElem?_eq_getElem ab⟩
  refine aa.region ?_;simp only[go_sem])
 |(
  refine aa.here 8 20 9 rfl ?_
  have hnr:=eO.1 (show aY n=true by assumption)
  refine aa.bA ?_
  refine an.at 9 3 rfl ?_
  simp only[go_sem]
  refine an.native [.int .u64 (dH (bC (l.take i))),.int .u64 (IntKind.u64.wrap n),.int .u64 0] _ _ rfl (EY hn) (fun c=>AM _ _) ?_
  simp only[go_sem]
  refine an.of ?_
  simp only[go_sem])
 |(
  refine aa.here 9 27 10 rfl ?_
  refine aa.bA ?_
  refine an.at 10 5 rfl ?_
  simp only[go_sem]
  refine an.native [.int .u64 (gI (bC (l.take i))),.int .u64 (IntKind.u64.wrap (n.fdiv (2^(min 63 64)))),.int .u64 ((dH (bC (l.take i))+n%bI)/bI)] _ _ rfl (DN hn hnr) (fun c=>AM _ _) ?_
  simp only[go_sem]
  refine an.of ?_
  simp only[go_sem])
 |(refine aa.region ?_;simp only[go_sem])
 |(refine hK _ ?_;clear hK K)
 |refine aa.block ?_
 |refine aa.cond rfl (fun c=>?_) (fun c=>?_)<;>first|exact Bool.noConfusion c|(try simp only[dD] at c)
 |refine aa.skip ?_
 |(refine aa.exit ?_;simp only[go_sem])
 |(refine ah.one (pV _) af rfl ?_;simp only[go_sem])
 |(refine aL.split (fun h=>?_) (fun h=>?_)<;>simp only[h,go_sem]<;>(try simp only[dD] at h))
 |(refine aM.bG ae ?_;(try simp only[go_sem]))
 |((with_reducible refine And.intro ?_ ?_);(focus((simp;done)));(try simp only[hb,go_sem]))
 |(
  refine aa.here 3 13 1 rfl ?_
  refine aa.cC (ι:=Nat) [2,3,7,8,13,14,15,16,17,18,19,20,21,22,23,24,25,26,27,28,29,30,31,32,33,34,35] (fun(i:Nat)=>[(12,i64 i),(4,(.v (.int .u64 (gI (bC (l.take i)))))),(5,(.v (.int .u64 (dH (bC (l.take i))))))]) (fun(i:Nat)=>i≤l.length∧(l.take i).all aY=true) (fun(i:Nat)=>l.length-i) (0) ?_ ?_ ?_
  ·(try simp only[go_sem]);(repeat'(first|refine And.intro ?_ ?_|exact .inr rfl));done
  ·exact⟨Nat.zero_le _,by simp⟩
  rintro i ⟨h1,h2⟩
  simp only[go_sem])
 |(
  refine⟨i+1,?_,?_,?_⟩
  ·(try simp only[go_sem]);(try rw[av ab ab]);(try rw[step_hi hn hnr]);(repeat'(exact .inr rfl));done
  ·exact⟨by omega,Jy hn h2 ae⟩
  ·(try simp only[]);omega)
 |(
  refine aa.ret ?_
  refine aB.is ?_;simp only[go_sem,aE,aI,aH,aG,aJ,aF]<;>(first
  |(rw[zd hn ae];simp;done)
  |(rw[IJ hl ae h2 ae ae];simp;done)
  |(rw[MM hl ae h2 ae ae];simp;done)
  |(rw[SL hl ae h2 ae];simp;done)))
 |refine aa.fin ae ?_)
end Go.Proofs.YtajeeghgiilhiaaGreat
end
section
namespace Go.Proofs
open Go.RowKit Go.Maps Go.Sort Go.Shelf
variable{P:Program}{ρ:Ren}
def ny{α:Type}(F:Fence)(n:Nat)(P:Program)(g:Nat)(lb:Array Value)(enc:α→Value)(S:List α→Prop)(N:Nat)(w:World):Prop:=
 ∀(l:Nat) (J:List α→World→Prop) (W:World),Below w.heap.size w W→AbidesFrom W.heap.size J→(∀pre W1,J pre W1→Below w.heap.size w W1)→
  (∀pre x W1,J pre W1→pre.length<N→YieldAt F (n-1) P l #[enc x] W1 fun e W'=>e= .returned (.bool true)∧J (pre++[x]) W'∧KeepsWalks W1 W')→
  J [] W→CallsIn F n P g (#[.func (.yield l) #[] #[]]++lb) W fun e W'=>(∃v,e= .returned v)∧∃xs,S xs∧J xs W'
theorem ny.upto{α:Type}{F:Fence}{n:Nat}{P:Program}{g:Nat}{lb:Array Value}{enc:α→Value}{S:List α→Prop}{N:Nat}{w:World}
 (h:ny F n P g lb enc S N w):ny F n P g lb enc (fun xs=>S xs∧xs.length≤N) N w:=fun l J W hW hJ hB hY h0=>by
 refine(h l (fun xs W'=>J xs W'∧xs.length≤N) W hW (fun s A B row hs hg hr=>⟨hJ s A B row hs.1 hg hr,hs.2⟩) (fun pre W1 hj=>hB pre W1 hj.1)
  (fun pre x W1 hj hl=>(hY pre x W1 hj.1 hl).mono (fun e w' hr=>⟨hr.1,⟨hr.2.1,by simp;omega⟩,hr.2.2⟩)) ⟨h0,Nat.zero_le _⟩).mono ?_
 rintro e W' ⟨hv,xs,hS,hJ',hlen⟩
 exact⟨hv,xs,⟨hS,hlen⟩,hJ'⟩
set_option maxRecDepth 100000 in
theorem Sq.J8(L:SlLaysZ.n11 P ρ)(F:Fence)(n:Nat)(h11:F.fn (ρ.f 11))(hro:F.round=none)(hn:2≤n)(g:Nat)(lb:Array Value)(hFg:F.fn g)(eg:∀args w,(callFunc g args).run P w= .ok (.enter g args) w)
 (S:List (List UInt8)→Prop) (N:Nat) (hN:N≤maxLen) (hNb:N*16≤140737488355328) (w:World) (hseq:ny F (n-1) P g lb encStr S N w):
 CallsIn F n P (ρ.f 11) #[.slice none 0 0,.func (.func g) #[] lb] w fun e w'=>∃(v:Value) (ss:List (List UInt8)),e= .returned v∧S ss∧w'.ownsRow w.heap.size (ρ.t 26) 1 v ss.length (ss.map encStr)∧(v= .slice none 0 0↔ss=[])∧Below w.heap.size w w':=by
 have h1:1≤n:=by omega
 have mixed:=L.mixed;have t0:=L.t0;have a0:=L.a0;have z0:=L.z0;have v0:=L.v0;have t24:=L.t24;have a24:=L.a24;have z24:=L.z24;have v24:=L.v24;have t26:=L.t26;have a26:=L.a26;have z26:=L.z26;have v26:=L.v26;have t28:=L.t28;have a28:=L.a28;have z28:=L.z28;have v28:=L.v28
 have hne:ρ.t 24≠ρ.t 26:=fun e=>by have h:=L.t24;rw[e,L.t26] at h;cases h
 have u0:=run_underlying L.t0;have u24:=run_underlying L.t24;have u26:=run_underlying L.t26;have u28:=run_underlying L.t28
 obtain⟨_,_,FG⟩:=L.f11
 refine callsIn_of_wp_marks FG rfl h11 ?_ hro
 simp only[SlBodyZ.n11_ntmps ρ,List.size_toArray,List.length_cons,List.length_nil,Nat.reduceAdd,Nat.reduceSub,Array.replicate_succ,Array.replicate_zero,List.push_toArray,List.append_toArray,List.nil_append,List.cons_append]
 gi_wp2
 refine wpIn_rangeFunc ?_
 intro fn hfn
 rw[hro]
 obtain⟨W0,hW0⟩:∃W0,w.alloc (.cells #[.slice none 0 0] (ρ.t 24))=W0:=⟨_,rfl⟩
 have hs0:W0.heap.size=w.heap.size+1:=by rw[←hW0];simp
 have hv0:W0.heap[w.heap.size]?=some (.cells #[.slice none 0 0] (ρ.t 24) (0,0)):=by rw[←hW0];exact World.alloc_heap_new w _
 have hb0:Below w.heap.size w W0:=by rw[←hW0];exact(Below.refl _ w).alloc (Nat.le_refl _) _
 rw[hW0]
 obtain⟨W1,hW1⟩:∃W1,(W0.alloc (.deferred (some []))).alloc (.loop (AnyZ.apRec ρ fn (.func (.func g) #[] lb) w.heap.size W0.heap.size .ready none))=W1:=⟨_,rfl⟩
 have hold:∀k,k<W0.heap.size→W1.heap[k]?=W0.heap[k]?:=fun k hk=>by
  rw[←hW1];exact(Below.heap_alloc _ _ k (by simp;omega)).trans (Below.heap_alloc _ _ k hk)
 have hb1:Below w.heap.size w W1:=by rw[←hW1];exact(hb0.alloc hb0.size _).alloc (by have:=hb0.size;simp;omega) _
 have hs1:W1.heap.size=W0.heap.size+2:=by rw[←hW1];simp
 have hM:AnyZ.ApAt ρ w fn (.func (.func g) #[] lb) w.heap.size (W0.heap.size+1) W0.heap.size [] W1:=
  ⟨⟨_,(hold w.heap.size ab).trans hv0,⟨rfl,.inl ⟨rfl,rfl⟩⟩,by simp⟩,
   by rw[←hW1];have:=World.alloc_heap_new (W0.alloc (.deferred (some []))) (.loop (AnyZ.apRec ρ fn (.func (.func g) #[] lb) w.heap.size W0.heap.size .ready none));rwa[World.size_alloc] at this,
   by rw[←hW1];exact(Below.heap_alloc _ _ _ aD).trans (World.alloc_heap_new W0 _),hb1⟩
 refine⟨W0.heap.size+1,[{ target:= .collected W0.heap.size,args:=#[] }],W1,{ target:= .fn (.func g) lb,args:=#[.func (.yield (W0.heap.size+1)) #[] #[]] },W1,g,
  #[.func (.yield (W0.heap.size+1)) #[] #[]]++lb,W1,?_,?_,?_,?_,fun _=>h1,?_⟩
 ·rw[←hW1];exact run_enterLoop_outer _ _ _ _ _
 ·simp[resolve,go_sem]
 ·intro f' hf';simp[Target.leads] at hf';subst hf';exact hFg
 ·simp[invoke,go_sem,eg]
 ·refine(hseq (W0.heap.size+1) (AnyZ.ApAt ρ w fn (.func (.func g) #[] lb) w.heap.size (W0.heap.size+1) W0.heap.size) W1 hb1 (AnyZ.ap_abides ρ _ _ _ _ _ _ _ hb1.size) (fun pre W hJ=>hJ.below)
   (fun pre x W hJ hl=>AnyZ.apYield { L with } F (n-1-1) w fn hfn _ w.heap.size (W0.heap.size+1) W0.heap.size ab ab ab (Nat.le_refl _) ab N hN hNb pre x W hJ hl) hM).mono ?_
  rintro e W2 ⟨⟨v0,rfl⟩,ss,hS,h2⟩
  obtain⟨v,hv,hrow,hnil⟩:=h2.box
  have hend:=run_endLoop (P:=P) h2.L (by simp[AnyZ.apRec])
  obtain⟨W3,hW3⟩:∃W3,W2.putObj (W0.heap.size+1) (.loop { AnyZ.apRec ρ fn (.func (.func g) #[] lb) w.heap.size W0.heap.size .ready none with state:= .exhausted })=W3:=⟨_,rfl⟩
  rw[hW3] at hend
  have hg3:W2.grownBy W3 (some (W0.heap.size+1)):=by rw[←hW3];exact grownBy_putObj_a _ _ _
  have hv3:W3.heap[w.heap.size]?=some (.cells #[v] (ρ.t 24) (0,0)):=by rw[←hW3];exact(World.putObj_heap_other ab).trans hv
  have hK3:W3.heap[W0.heap.size]?=some (.deferred (some [])):=by rw[←hW3];exact(World.putObj_heap_other ab).trans h2.K
  have hrow3:=hrow.kept hg3 (ownsRow_ne_a hrow h2.L (fun cur e=>by first|cases e|exact hne (Obj.cells.inj e).2.1))
  have hb3:Below w.heap.size w W3:=h2.below.grown hg3 h2.below.size (fun k e=>by cases e;omega)
  obtain⟨hc3,hf3⟩:=cell_of_box_a hv3
  clear hW3
  refine⟨none,W3,hend,?_⟩
  gi_wp2
  rw[←hs0]
  refine⟨by simp,.inl ⟨_,_,rfl,run_takeDeferred hK3,?_⟩⟩
  exact⟨_,results_tmp rfl _ _ _,v,ss,rfl,hS,hrow3.kept (grownBy_putObj_a _ _ _) (ownsRow_ne_a hrow3 hK3 (fun cur e=>by first|cases e|exact hne (Obj.cells.inj e).2.1)),hnil,hb3.grown (grownBy_putObj_a _ _ _) hb3.size (fun k e=>by cases e;omega)⟩
theorem Sq.Q0(L:SlLaysZ.n8 P ρ)(F:Fence)(n:Nat)(h8:F.fn (ρ.f 8))(h11:F.fn (ρ.f 11))(hro:F.round=none)(hn:3≤n)(g:Nat)(lb:Array Value)(hFg:F.fn g)(eg:∀args w,(callFunc g args).run P w= .ok (.enter g args) w)
 (S:List (List UInt8)→Prop) (N:Nat) (hN:N≤maxLen) (hNb:N*16≤140737488355328) (w:World) (hseq:ny F (n-1-1) P g lb encStr S N w):
 CallsIn F n P (ρ.f 8) #[.func (.func g) #[] lb] w fun e w'=>∃(v:Value) (ss:List (List UInt8)),e= .returned v∧S ss∧w'.ownsRow w.heap.size (ρ.t 26) 1 v ss.length (ss.map encStr)∧(v= .slice none 0 0↔ss=[])∧Below w.heap.size w w':=by
 have h1:1≤n:=by omega
 have e11:∀args w,(callFunc (ρ.f 11) args).run P w= .ok (.enter (ρ.f 11) args) w:=L.f11.enters rfl
 have mixed:=L.mixed;have t0:=L.t0;have a0:=L.a0;have z0:=L.z0;have v0:=L.v0;have t24:=L.t24;have a24:=L.a24;have z24:=L.z24;have v24:=L.v24;have t26:=L.t26;have a26:=L.a26;have z26:=L.z26;have v26:=L.v26;have t28:=L.t28;have a28:=L.a28;have z28:=L.z28;have v28:=L.v28
 have u0:=run_underlying L.t0;have u24:=run_underlying L.t24;have u26:=run_underlying L.t26;have u28:=run_underlying L.t28
 obtain⟨_,_,FG⟩:=L.f8
 refine callsIn_of_wp FG rfl h8 ?_ hro
 simp only[SlBodyZ.n8_ntmps ρ,List.size_toArray,List.length_cons,List.length_nil,Nat.reduceAdd,Nat.reduceSub,Array.replicate_succ,Array.replicate_zero,List.push_toArray,List.append_toArray,List.nil_append,List.cons_append]
 gi_wp2_with (gi_at_fn (ρ.f 11);refine(Sq.J8 { L with } F (n-1) h11 hro ab g lb hFg eg S N hN hNb _ hseq).mono ?_;rintro e w' ⟨v,ss,rfl,hS,hrow,hnil,hb⟩)
 go_ret
 exact⟨v,ss,rfl,hS,hrow,hnil,hb⟩
set_option maxRecDepth 100000 in
theorem Sq.Sn(L:SlLaysZ.n6 P ρ)(F:Fence)(n:Nat)(h6:F.fn (ρ.f 6))(h8:F.fn (ρ.f 8))(h9:F.fn (ρ.f 9))(h11:F.fn (ρ.f 11))(hro:F.round=none)(hn:4≤n)(hsort:AnyZ.SortsIn P ρ F (n-1))(e9:∀args w,(callFunc (ρ.f 9) args).run P w= .ok (.enter (ρ.f 9) args) w)(g:Nat)(lb:Array Value)(hFg:F.fn g)(eg:∀args w,(callFunc g args).run P w= .ok (.enter g args) w)
 (S:List (List UInt8)→Prop) (N:Nat) (hN:N≤maxLen) (hNb:N*16≤140737488355328) (w:World) (hseq:ny F (n-1-1-1) P g lb encStr S N w):
 CallsIn F n P (ρ.f 6) #[.func (.func g) #[] lb] w fun e w'=>∃(v:Value) (ss:List (List UInt8)),e= .returned v∧S ss∧
  w'.ownsRow w.heap.size (ρ.t 26) 1 v ss.length ((ss.mergeSort (fun x y=>decide (x≤y))).map encStr)∧(v= .slice none 0 0↔ss=[])∧Below w.heap.size w w':=by
 have h1:1≤n:=by omega
 have e8:∀args w,(callFunc (ρ.f 8) args).run P w= .ok (.enter (ρ.f 8) args) w:=L.f8.enters rfl
 have mixed:=L.mixed;have t0:=L.t0;have a0:=L.a0;have z0:=L.z0;have v0:=L.v0;have t24:=L.t24;have a24:=L.a24;have z24:=L.z24;have v24:=L.v24;have t26:=L.t26;have a26:=L.a26;have z26:=L.z26;have v26:=L.v26;have t28:=L.t28;have a28:=L.a28;have z28:=L.z28;have v28:=L.v28
 have u0:=run_underlying L.t0;have u24:=run_underlying L.t24;have u26:=run_underlying L.t26;have u28:=run_underlying L.t28
 obtain⟨_,_,FG⟩:=L.f6
 refine callsIn_of_wp FG rfl h6 ?_ hro
 simp only[SlBodyZ.n6_ntmps ρ,List.size_toArray,List.length_cons,List.length_nil,Nat.reduceAdd,Nat.reduceSub,Array.replicate_succ,Array.replicate_zero,List.push_toArray,List.append_toArray,List.nil_append,List.cons_append]
 gi_wp2_with (gi_at_fn (ρ.f 8);refine(Sq.Q0 { L with } F (n-1) h8 h11 hro ab g lb hFg eg _ N hN hNb _ hseq.upto).mono ?_;rintro e W ⟨v,ss,rfl,⟨hS,hlen⟩,hrow,hnil,hb⟩)
 rcases hrow.2 with⟨rfl,hz⟩|⟨gb,cap,cur,rfl,hbase,hgb,r1,r2,r3,r4⟩
 ·
  have hss:ss=[]:=List.eq_nil_of_length_eq_zero hz
  subst hss
  gi_wp2_with (gi_at_fn (ρ.f 9);refine(hsort.2 none 0 W).mono ?_;rintro e w' ⟨rfl,rfl⟩)
  go_ret
  exact⟨.slice none 0 0,[],rfl,hS,by simpa using hrow,by simp,hb⟩
 ·have hH:Holds encStr W gb 0 ss.toArray:=holds_of_block hgb (by simpa using r4)
  have hgl:gb<W.heap.size:=(Array.getElem?_eq_some_iff.1 hgb).1
  have hsz:ss.length<4611686018427387904:=by omega
  have cS:=hsort.1 gb 0 cap ss W hH hgl hsz
  gi_wp2_with (gi_at_fn (ρ.f 9);refine cS.mono ?_;rintro e w' ⟨rfl,nn,os,rfl⟩)
  go_ret
  exact⟨_,ss,rfl,hS,ownsRow_sorted aD hbase hgb r1 r2 r3,hnil,hb.grown (grownBy_sorted _) hb.size (fun j hj=>by cases hj;exact hbase)⟩
end Go.Proofs
namespace Go.Abs
open Go Go.RowKit Go.Sort Go.Proofs Go.Maps
theorem Rel.start{w:World}{im:Im}(E:Env)(hG:ln E im)(hok:∀(b o:Nat) (x:Value),im b o=some x→w.cell? ⟨b,o,none⟩=some x):
 Rel w ⟨im,[],E.dr⟩ ⟨[],[],im⟩ ⟨[],[],[],E.gl,none,[]⟩ { tmps:=#[],defers:=[] } w:=
 ⟨⟨rfl,fun b o hb=>by
    cases h:im b o with
    |none=>exact h
    |some x=>exact absurd (World.block_lt_of_cell? w ⟨b,o,none⟩ (hok b o x h)) (Nat.not_lt.2 hb)⟩,rfl,by simp,Below.refl _ _,.refl _,fun _ _ _=>rfl,hok,rfl,by simp,rfl,by simp,by simp,⟨by simp,by simp,by simp⟩,fun g cs h=>hG g cs h,⟨rfl,by simp⟩,fun l d i h=>by simp at h⟩
theorem ai.VS{E:Env}{f:FuncId}{args:List AV}{R:AV→List Nat→Prop}
 (h:∀(w:World) (im:Im) (vs:List Value),E.ok w→ln E im→(∀(b o:Nat) (x:Value),im b o=some x→w.cell? ⟨b,o,none⟩=some x)→kF im args vs→Calls E.P f vs.toArray w fun e w'=>∃v,e= .returned v∧
   ∃c st a,Rel w ⟨im,[],E.dr⟩ c st a w'∧∃x,VR c x v∧∃sel y,fI st.tk.length sel=true∧oq sel x y∧R y (gG st.tk sel)):ai E f args R:=by
 intro w im vs hE hG hok hpw
 refine(h w im vs hE hG hok hpw).mono ?_
 rintro e w' ⟨v,rfl,c',st',a,r',x,hv,sel,y,h3,h4,h5⟩
 refine⟨v,y,fN c' sel,c'.im,rfl,r'.below,r'.di,r'.dq,r'.cu,AS r' h3,Ct r' h3 hv h4,?_⟩
 rw[rB r' h3];exact h5
theorem Gd{im:Im}{l:List (List UInt8)}{cs:List Value}(h:cs.take l.length=l.map encStr):Cells im 1 (l.map str) cs:=by
 refine⟨fun i e he=>?_,fun i e j c he hc=>?_⟩
 ·rw[List.getElem?_map] at he
  cases hl:l[i]? with
  |none=>simp[hl] at he
  |some b=>simp only[hl,Option.map_some,Option.some.injEq] at he;subst he;rfl
 ·rw[List.getElem?_map] at he
  cases hl:l[i]? with
  |none=>simp[hl] at he
  |some b=>
   simp only[hl,Option.map_some,Option.some.injEq] at he;subst he
   have hlt:i<l.length:=(List.getElem?_eq_some_iff.1 hl).1
   have h1:(cs.take l.length)[i]?=cs[i]?:=by rw[List.getElem?_take,if_pos hlt]
   cases j with
   |succ j=>simp[AV.leaves] at hc
   |zero=>
    simp only[AV.leaves,List.getElem?_cons_zero,Option.some.injEq] at hc;subst hc
    refine⟨encStr b,?_,.v _,rfl⟩
    rw[Nat.mul_one,Nat.add_zero,←h1,h]
    simp[hl]
theorem ai.Wb{E:Env}{f:FuncId}{args:List AV}{l:List (List UInt8)}{ty:TypeId}
 (h:∀(w:World) (im:Im) (vs:List Value),E.ok w→ln E im→(∀(b o:Nat) (x:Value),im b o=some x→w.cell? ⟨b,o,none⟩=some x)→kF im args vs→Calls E.P f vs.toArray w fun e w'=>∃v,e= .returned v∧
   w'.ownsRow w.heap.size ty 1 v l.length (l.map encStr)∧Go.RowKit.Below w.heap.size w w') (hdr:¬E.dr:=by exact fun h=>h):ai E f args (fun r t=>r= .sl (some 0) 1 (l.map str)∧t=[l.length]):=by
 refine ai.VS fun w im vs hE hG hok hpw=>(h w im vs hE hG hok hpw).mono ?_
 rintro e w' ⟨v,rfl,hrow,hb0⟩
 have hb:Below E.dr w.heap.size w w':=⟨hb0,fun d=>absurd d hdr⟩
 have r0:=Rel.start E hG hok
 refine⟨v,rfl,?_⟩
 rcases hrow.2 with⟨rfl,hz⟩|⟨g,cap,cur,rfl,hbase,hg,h1,h2,h3,h4⟩
 ·have hl:l=[]:=List.eq_nil_of_length_eq_zero hz
  subst hl
  exact⟨_,_,_,r0.ext hb,.aQ,.base .aQ,[(false,1)],.sl (some 0) 1 [],rfl,rfl,rfl,rfl⟩
 ·obtain⟨c',hle,r1,hv⟩:=r0.rE (k:=1) (cap:=cap) (es:=l.map str) (cs:=cur) hb hbase hg (.inl rfl) (by rw[h3];exact Nat.le_refl _) (by simpa using h1) (Gd (by simpa using h4))
  rw[List.length_map] at hv r1
  refine⟨c',_,_,r1,_,hv,[(true,0)],.sl (some 0) 1 (l.map str),rfl,⟨rfl,rfl,rfl⟩,rfl,?_⟩
  simp[gG]
end Go.Abs
namespace Go.Abs
open Go Go.RowKit Go.Sort Go.Proofs Go.Maps
abbrev fH(l:List (List UInt8)):List (List UInt8):=l.mergeSort fun x y=>decide (x≤y)
theorem lK(l:List (List UInt8)):(fH l).length=l.length:=List.length_mergeSort l
theorem OA{w:World}{g n:Nat}{os:Array Obj}{d:Array (List UInt8)}{cur:Array Value}{e:TypeId}{fz:Nat×Nat}(hb:w.heap[g]?=some (.cells cur e fz)):
 (grow (putRow encStr (Sort.ahead w n) g 0 d) os).heap[g]?=some (.cells (putCells encStr 0 d cur) e fz):=by
 have hlt:=(Array.getElem?_eq_some_iff.1 hb).1
 rw[heap_grow_old _ _ (by simpa using hlt)]
 simp[putRow,mapBlock,Sort.ahead,Array.getElem?_modify,hb,onCells]
theorem DY{w:World}{B g n:Nat}{os:Array Obj}(d:Array (List UInt8)){w0:World}{D:Prop}(h:Below D B w0 w)(hg:B≤g)(hB:B≤w.heap.size):Below D B w0 (grow (putRow encStr (Sort.ahead w n) g 0 d) os):=
 h.grown (grownBy_sorted d) hB (fun j hj=>by cases hj;exact hg) (Nat.le_add_right _ _)
theorem an.IK{E:Env}{Q:Exit→St→Prop}{st:St}{ops:Array Oper}{rest:List Oper}{g:FuncId}{dst:Option Tmp}{f x:Operand}{tys:Array TypeId}{ty:TypeId}{pos:String}{after:Array Edge}
 (hc:au E.P g=true) (he:st.ev f= .fn g [])
 (hsort:∀(bc off cap:Nat) (ss:List (List UInt8)) (w:World),Holds encStr w bc off ss.toArray→bc<w.heap.size→ss.length<4611686018427387904→
   Calls E.P g #[.slice (some ⟨bc,off,none⟩) ss.length cap] w fun e w'=>e= .returned (.tuple #[])∧∃n os,w'=grow (putRow encStr (Sort.ahead w n) bc off (ss.mergeSort fun x y=>decide (x≤y)).toArray) os)
 (hnone:∀(p:Option Addr) (cap:Nat) (w:World),Calls E.P g #[.slice p 0 cap] w fun e w'=>e= .returned (.tuple #[])∧w'=w)
 {id cap:Nat} {l:List (List UInt8)} {sp:List AV} (hx:st.ev x= .mu id 1 0 l.length cap) (ho:st.own[id]?=some (some (l.map str++sp))) (hsz:l.length≤1000000)
 (h:an E ops rest Q (St.put { st with own:=st.own.set id (some ((fH l).map str++sp)) } dst (.aC []))):
 an E ops (⟨dst,.call ⟨.value f,#[x],tys⟩,ty,pos,after,none⟩::rest) Q st:=by
 refine an.zN hc he fun w0 im0 cx a w vs h0 hG r hpw=>?_
 obtain⟨hn,hp⟩:=hpw
 obtain⟨v,rfl⟩:∃v,vs=[v]:=by
  match vs,hn with
  |[v],_=>exact⟨v,rfl⟩
 have hv:VR cx (.mu id 1 0 l.length cap) v:=by
  have:=hp 0 _ v rfl rfl
  rwa[←hx]
 have same:l=[]→{ st with own:=st.own.set id (some ((fH l).map str++sp)) }=st:=fun e=>by
  subst e
  have e1:st.own.set id (some ((fH []).map str++sp))=st.own:=by
   apply List.ext_getElem?
   intro j
   rw[List.getElem?_set]
   split
   ·rename_i hj;subst hj
    rw[if_pos (bN ho),ho];simp[fH]
   ·rfl
  rw[e1]
 rcases hv.c0 with⟨b,hb,hcap,rfl⟩|⟨hl,rfl,rfl⟩
 ·rcases Nat.eq_zero_or_pos l.length with hz|hz
  ·have hl:l=[]:=List.eq_nil_of_length_eq_zero hz
   subst hl
   refine(hnone _ cap w).mono ?_
   rintro e w' ⟨rfl,rfl⟩
   exact⟨_,rfl,cx,st,.aC [],r,.aC [] [] rfl aD,by rw[same rfl] at h;exact h⟩
  ·have hOK:=r.own id b 1 _ hb ho
   obtain⟨cs,te,lo,hi,hblk,hfr,hsize,hlv,hcell⟩:=hOK.bc
   have hget:∀j,j<l.length→cs[j]?=some (encStr l[j]!):=fun j hj=>by
    have e1:(l.map str++sp)[j]?=some (str l[j]!):=by
     rw[List.getElem?_append_left (by simpa using hj)]
     simp[hj]
    obtain⟨v,hv,hvr,_⟩:=hcell j _ 0 _ e1 rfl
    rw[hvr.bD] at hv
    simpa using hv
   have hH:Holds encStr w b 0 l.toArray:=fun j hj=>by
    have hj':j<l.length:=by simpa using hj
    have e2:=hget j hj'
    have hlt:j<cs.size:=(Array.getElem?_eq_some_iff.1 e2).1
    constructor
    ·simp only[World.cell?,hblk,Nat.zero_add,e2]
     try simp[hj']
    ·simp only[World.frozen?,hblk,Nat.zero_add]
     rcases hfr with rfl|hfr
     ·first|(simp;done)|(simp;omega)
     ·first|(simp;done)|(simp;omega)
   have hbs:b<w.heap.size:=r.jQ hb ho
   rw[Nat.zero_mul]
   refine(hsort b 0 cap l w hH hbs ab).mono ?_
   rintro e w' ⟨rfl,n,os,rfl⟩
   refine⟨_,rfl,cx,{ st with own:=st.own.set id (some ((fH l).map str++sp)) },.aC [],?_,.aC [] [] rfl aD,h⟩
   obtain⟨w1,hw1⟩:∃w1,putRow encStr (Sort.ahead w n) b 0 (l.mergeSort fun x y=>decide (x≤y)).toArray=w1:=⟨_,rfl⟩
   have hw1':grow w1 #[]=w1:=grow_empty w1
   have hsz1:w1.heap.size=w.heap.size:=by rw[←hw1];simp[putRow,mapBlock,Sort.ahead]
   have r1:Rel w0 im0 cx { st with own:=st.own.set id (some ((fH l).map str++sp)) } a w1:=by
    refine r.l9 hb ho (fun d hd=>?_) ?_ ?_
    ·rw[←hw1]
     simp[putRow,mapBlock,Sort.ahead,Array.getElem?_modify,Ne.symm hd]
    ·rw[←hw1',←hw1]
     exact DY _ r.below hOK.new r.below.size
    ·refine⟨_,te,lo,hi,(by rw[←hw1',←hw1];exact OA hblk),?_,?_,?_,?_⟩
     ·simpa[putCells] using hfr
     ·simp only[List.length_append,List.length_map,lK] at hsize ⊢
      simpa[putCells] using hsize
     ·intro i e he
      rcases na _ _ _ _ he with⟨h1,h2⟩|⟨h1,h2⟩
      ·rw[List.getElem?_map] at h2
       cases hq:(fH l)[i]? with
       |none=>simp[hq] at h2
       |some z=>simp only[hq,Option.map_some,Option.some.injEq] at h2;subst h2;rfl
      ·refine hlv i e ?_
       rw[List.length_map,lK] at h1 h2
       rw[List.getElem?_append_right (by rw[List.length_map];exact h1),List.length_map];exact h2
     ·intro i e j y he hy
      rcases na _ _ _ _ he with⟨h1,h2⟩|⟨h1,h2⟩
      ·rw[List.length_map,lK] at h1
       rw[List.getElem?_map] at h2
       cases hq:(fH l)[i]? with
       |none=>simp[hq] at h2
       |some z=>
        simp only[hq,Option.map_some,Option.some.injEq] at h2;subst h2
        cases j with
        |succ j=>simp[AV.leaves] at hy
        |zero=>
         simp only[AV.leaves,List.getElem?_cons_zero,Option.some.injEq] at hy;subst hy
         have hlt:i<cs.size:=(Array.getElem?_eq_some_iff.1 (hget i h1)).1
         refine⟨encStr z,?_,.base (.v _),.inr rfl⟩
         rw[Nat.mul_one,Nat.add_zero]
         have hz2:(l.mergeSort fun x y=>decide (x≤y))[i]?=some z:=hq
         have hi2:=bN hz2
         simp only[putCells,Array.getElem?_mapIdx,Array.getElem?_eq_getElem hlt,Option.map_some]
         rw[if_pos ⟨Nat.zero_le _,by simpa using hi2⟩]
         simp[hz2]
      ·have h3:(l.map str++sp)[i]?=some e:=by
        rw[List.length_map,lK] at h1 h2
        rw[List.getElem?_append_right (by rw[List.length_map];exact h1),List.length_map];exact h2
       obtain⟨v,hv,hvr,hv1⟩:=hcell i e j y h3 hy
       refine⟨v,?_,hvr,hv1⟩
       rw[List.length_map,lK] at h1
       have hlt:=(Array.getElem?_eq_some_iff.1 hv).1
       simp only[putCells,Array.getElem?_mapIdx,Array.getElem?_eq_getElem hlt,Option.map_some]
       have hns:¬(0≤i*1+j∧i*1+j<0+(l.mergeSort fun x y=>decide (x≤y)).toArray.size):=by
        have:(l.mergeSort fun x y=>decide (x≤y)).length=l.length:=List.length_mergeSort l
        simp only[List.size_toArray,this];omega
       rw[if_neg hns]
       rw[Array.getElem?_eq_getElem hlt] at hv;exact hv
   rw[hw1]
   exact r1.ext (w':=grow w1 os) ((Below.refl _ w1).grown (w':=grow w1 os) (row:=none) ⟨rfl,rfl,rfl,by simp[grow],fun k hk _=>heap_grow_old _ _ hk⟩ (Nat.le_refl _) (fun j hj=>by cases hj) (Nat.le_refl _))
 ·have hl:l=[]:=List.eq_nil_of_length_eq_zero hl
  subst hl
  refine(hnone _ 0 w).mono ?_
  rintro e w' ⟨rfl,rfl⟩
  exact⟨_,rfl,cx,st,.aC [],r,.aC [] [] rfl aD,by rw[same rfl] at h;exact h⟩
end Go.Abs
end
section
namespace Go.Proofs
open Go.RowKit Go.Shelf Go.Sort
attribute [local go_sem] Oper.semAt_some
theorem Tryz.Eu(zs:List (List UInt8)):(List.range zs.length).map (fun j=>zs[j]?.getD [])=zs:=by
 apply List.ext_getElem
 ·simp
 ·intro i h1 h2
  simp[h2]
theorem Tryz.TE{α:Type}(f:Nat→α)(k:Nat):(List.range (k+1)).map f=(List.range k).map f++[f k]:=by simp[List.range_succ]
set_option maxRecDepth 100000 in
theorem Tryz.X6(F:Fence)(n:Nat)(h7:F.fn 165)(hro:F.round=none)(hn:1≤n)(l Bs bo b off len cap:Nat)(zs:List (List UInt8))(hreach:len*16≤140737488351232)(w:World)(hb:b<w.heap.size)(J:List (List UInt8)→World→Prop)(hJB:∀pre W1,J pre W1→Below w.heap.size w W1)
 (hY:∀pre x W,J pre W→pre.length<len→YieldAt F (n-1) Tryz.prog l #[encStr x] W fun e W'=>e= .returned (.bool true)∧J (pre++[x]) W'∧KeepsWalks W W')
 (W:World) (hBs:W.cell? ⟨Bs,bo,none⟩=some (.slice (some ⟨b,off,none⟩) len cap)) (hc:∀j,j<len→w.cell? ⟨b,off+j,none⟩=some (encStr (zs[j]?.getD []))) (h0:J [] W):
 CallsIn F n Tryz.prog 165 #[.func (.yield l) #[] #[],.pointer (some ⟨Bs,bo,none⟩)] W fun e W'=>(∃v,e= .returned v)∧J ((List.range len).map fun j=>zs[j]?.getD []) W':=by
 refine callsIn_of_wp Tryz.func165 rfl h7 ?_ hro
 simp only[Tryz.ntmps165,List.size_toArray,List.length_cons,List.length_nil,Nat.reduceAdd,Nat.reduceSub,Array.replicate_succ,Array.replicate_zero,List.push_toArray,List.append_toArray,List.nil_append,List.cons_append]
 gi_wp2
 gi_loopw [7] (fun i wr=>∃k:Nat,k≤len∧i= .int .i64 k∧J ((List.range k).map fun j=>zs[j]?.getD []) wr)
  (fun i _=>len-(intOf i).toNat)
 case atStart=>exact⟨0,Nat.zero_le _,rfl,h0⟩
 case round=>
  obtain⟨k,hk,rfl,hJs⟩:=hrel
  have hcx:k<len→wr.cell? ⟨b,off+k,none⟩=some (encStr (zs[k]?.getD [])):=fun h=>((hJB _ _ hJs).cell (p:=⟨b,off+k,none⟩) hb).trans (hc k h)
  by_cases hlt:k<len
  ·obtain⟨fn,tmps,assign,body,hy,hR⟩:=hY _ (zs[k]?.getD []) wr hJs (by simpa using hlt)
   have hcx':=hcx hlt
   dsimp only[encStr] at hy hcx'
   gi_wp2
   refine hR.mono ?_
   rintro e W3 ⟨rfl,hJ3,hk3⟩
   gi_wp2
   go_roundw
   case rel=>exact⟨k+1,by omega,by simp,by rw[Tryz.TE];exact hJ3⟩
   case measure=>simp[intOf];omega
  ·obtain rfl:k=len:=by omega
   gi_wp2
   go_end0
   exact⟨⟨_,rfl⟩,hJs⟩
set_option maxRecDepth 100000 in
theorem Tryz.B6(F:Fence)(n:Nat)(h7:F.fn 165)(hro:F.round=none)(l Bs bo cap:Nat)(a:Option Addr)(J:List (List UInt8)→World→Prop)(W:World)(hBs:W.cell? ⟨Bs,bo,none⟩=some (.slice a 0 cap))(h0:J [] W):
 CallsIn F n Tryz.prog 165 #[.func (.yield l) #[] #[],.pointer (some ⟨Bs,bo,none⟩)] W fun e W'=>(∃v,e= .returned v)∧J [] W':=by
 refine callsIn_of_wp Tryz.func165 rfl h7 ?_ hro
 simp only[Tryz.ntmps165,List.size_toArray,List.length_cons,List.length_nil,Nat.reduceAdd,Nat.reduceSub,Array.replicate_succ,Array.replicate_zero,List.push_toArray,List.append_toArray,List.nil_append,List.cons_append]
 gi_wp2
 gi_loopw [7] (fun i wr=>i= .int .i64 0∧J [] wr) (fun _ _=>0)
 case atStart=>exact⟨rfl,h0⟩
 case round=>
  obtain⟨rfl,hJs⟩:=hrel
  gi_wp2
  go_end0
  exact⟨⟨_,rfl⟩,hJs⟩
theorem Tryz.MT(m:Nat):AnyZ.SortsIn Tryz.prog Tryz.tQ Fence.wide m:=
 ⟨fun bc off cap ss W hH hblk hsz=>callsIn_wide.2 (AnyM.slices_Sort_string Tryz.ru bc off cap ss W hH hblk hsz),
  fun p cap W=>callsIn_wide.2 (AnyM.slices_Sort_string_none Tryz.ru p cap W)⟩
end Go.Proofs
namespace Go.Proofs.YtajeeghgiilhiaaGreat
open Go Go.Abs Go.RowKit Go.Bk Go.Sort Go.Shelf
abbrev fH(l:List Bs):List Bs:=l.mergeSort fun x y=>decide (x≤y)
theorem WE(l:List Bs)(hl:l.length≤1000000):ai E 98 [.fn 165 [.bV [.sl none 1 (l.map str)]]] (fun r t=>r= .sl (some 0) 1 ((fH l).map str)∧t=[(fH l).length]):=by
 refine ai.Wb (ty:=Tryz.tQ.t 26) fun w im vs hE hG hok hpw=>?_
 obtain⟨hn,hp⟩:=hpw
 obtain⟨v,rfl⟩:∃v,vs=[v]:=by
  match vs,hn with
  |[v],_=>exact⟨v,rfl⟩
 obtain⟨us,rfl,hn2,hp2⟩:=(VR.base (c:=⟨[],[],im⟩) (hp 0 _ v rfl rfl)).hZ
 obtain⟨u,rfl⟩:∃u,us=[u]:=by
  match us,hn2 with
  |[u],_=>exact⟨u,rfl⟩
 obtain⟨Bs,bo,rfl,cv,h1,h2,h3⟩:=(hp2 0 _ u rfl rfl).mL
 have hc:=hok _ _ _ (h1 0 _ rfl)
 have hs:=h3 0 _ rfl
 have hBs:=World.block_lt_of_cell? w _ hc
 have hbase:∃S:List (List UInt8)→Prop,(∀ss,S ss→ss=l)∧ny Fence.wide 2 Tryz.prog 165 #[.pointer (some ⟨Bs,bo,none⟩)] encStr S l.length w:=by
  obtain⟨a,cap,hcv,hcap,hd⟩:=hs.gL
  rw[List.length_map] at hcv
  refine⟨fun ss=>ss=l,fun _ h=>h,fun lp J W hW hJ hB hY h0=>?_⟩
  have hc':=(hW.cell (p:=⟨Bs,bo,none⟩) hBs).trans hc
  rw[hcv] at hc'
  rcases hd with hd|⟨b,o,rfl,hk,cw,g1,g2,g3⟩
  ·have:l=[]:=by simpa using hd
   subst this
   exact(Tryz.B6 Fence.wide 2 trivial rfl lp Bs bo cap a J W hc' h0).mono fun e W' ⟨he,hj⟩=>⟨he,[],rfl,hj⟩
  ·have hcell:∀j,j<l.length→w.cell? ⟨b,o+j,none⟩=some (encStr (l[j]?.getD [])):=fun j hj=>by
    have e1:(l.map str)[j]?=some (str (l[j]?.getD [])):=by simp[hj]
    have e2:=g1 j _ 0 _ e1 rfl
    have e3:=g3 j _ 0 _ e1 rfl
    have e5:=(VR.base (c:=⟨[],[],im⟩) e3).bD
    have e4:=hok _ _ _ e2
    rw[e5] at e4
    simpa using e4
   rcases Nat.eq_zero_or_pos l.length with hz|hz
   ·have:l=[]:=List.eq_nil_of_length_eq_zero hz
    subst this
    exact(Tryz.B6 Fence.wide 2 trivial rfl lp Bs bo cap _ J W hc' h0).mono fun e W' ⟨he,hj⟩=>⟨he,[],rfl,hj⟩
   ·have hb:=World.block_lt_of_cell? w _ (hcell 0 hz)
    refine(Tryz.X6 Fence.wide 2 trivial rfl ab lp Bs bo b o l.length cap l ab w hb J hB hY W hc' hcell h0).mono ?_
    rintro e W' ⟨he,hj⟩
    rw[Tryz.Eu] at hj
    exact⟨he,l,rfl,hj⟩
 obtain⟨S,hS,hseq⟩:=hbase
 refine(callsIn_wide.1 (Sq.Sn Tryz.UM Fence.wide 5 trivial trivial trivial trivial rfl ab (Tryz.MT _) (enters_of Tryz.func103 af rfl) 165 #[.pointer (some ⟨Bs,bo,none⟩)] trivial (enters_of Tryz.func165 af rfl) S l.length (by simp[maxLen];omega) ab w hseq)).mono ?_
 rintro e w' ⟨v,ss,rfl,hss,hrow,_,hbl⟩
 obtain rfl:=hS ss hss
 refine⟨v,rfl,?_,hbl⟩
 simpa[fH] using hrow
end Go.Proofs.YtajeeghgiilhiaaGreat
end
