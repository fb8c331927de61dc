/- Texts of one chain, put together (Lb). -/
import Derived.Test.YthoonfpkfdjhiaaGreatDoorKbB
import Derived.Deep.LoopGhost
import Derived.RegionTactic
import Derived.Test.YthoonfpkfdjhiaaGreatDoorKbA
set_option linter.unusedVariables false
set_option linter.unusedSimpArgs false
set_option maxHeartbeats 16000000
set_option maxRecDepth 8000
section
namespace Go.az
open Go Go.RowKit
section
variable{P:Program}{w0:World}{im0:cX}{c:Ctx}{st:St}{a:Act}{w:World}
def fE(x:AV)(k:Nat):Option (List AV):=
 match x with
 |.sl _ q xs=>if q=k then some xs else none
 |.aw=>some []
 |.v (.string s)=>if k=1 then some (s.data.toList.map u8) else none
 |_=>none
def er(P:Program)(t:TypeId):Bool:=
 match P.underlying t with
 |some (.int _)|none=>false
 |_=>true
theorem yM(p q:Nat):p/q*q+p%q=p:=by rw[Nat.mul_comm];exact Nat.div_add_mod p q
theorem Aj{α:Type}(n:Nat)(f:Nat→α)(p:Nat)(h:p<n):((List.range n).map f)[p]?=some (f p):=by
 simp[h]
theorem oK(r:Rel w0 im0 c st a w){x:AV}{v:Value}(h:VR c x v){k:Nat}(hk:0<k){xs:List AV}(hs:fE x k=some xs):
 ∃news:List Value,news.length=xs.length*k∧Cells c.im k xs news∧(∀w',(Builtin.lenOf v).run P w'= .ok xs.length w')∧
  (∀u∈news,u.oneCell'=true)∧
  ∀w',(∀b o,w'.cell? ⟨b,o,none⟩=w.cell? ⟨b,o,none⟩)→(Builtin.firstCells k xs.length v).run P w'= .ok news.toArray w':=by
 unfold fE at hs
 split at hs
 ·rename_i t q xs'
  split at hs
  case isFalse=>simp at hs
  rename_i hq
  subst hq
  simp only[Option.some.injEq] at hs;subst hs
  obtain⟨a',cap,rfl,hcap,hes⟩:=h.fy.fu
  rcases hes with rfl|⟨b,o,rfl,hkk,cv,hm,h11,hv⟩
  ·refine⟨[],by simp,⟨by simp,by simp⟩,fun w'=>by simp[Builtin.lenOf],by simp,fun w' _=>?_⟩
   cases a' with
   |none=>simp[Builtin.firstCells]
   |some ad=>simp[Builtin.firstCells,loadCells,loadCellsFrom]
  ·have hdiv:∀p,p<xs'.length*q→p/q<xs'.length:=fun p hp=>Nat.div_lt_of_lt_mul (by rw[Nat.mul_comm];exact hp)
   have hleaf:∀p,p<xs'.length*q→∃e y,xs'[p/q]?=some e∧e.leaves[p%q]?=some y:=fun p hp=>by
    have h1:=hdiv p hp
    have h2:=hkk (p/q) xs'[p/q] (by simp[h1])
    have h3:p%q<xs'[p/q].leaves.length:=by rw[h2];exact Nat.mod_lt _ hk
    exact⟨xs'[p/q],xs'[p/q].leaves[p%q],List.getElem?_eq_getElem h1,List.getElem?_eq_getElem h3⟩
   have hget:∀p,p<xs'.length*q→w.cell? ⟨b,o+p,none⟩=some (cv (p/q) (p%q)):=fun p hp=>by
    obtain⟨e,y,h1,h2⟩:=hleaf p hp
    have:=r.cr _ _ _ (hm _ _ _ _ h1 h2)
    rw[Nat.add_assoc,yM] at this
    exact this
   refine⟨(List.range (xs'.length*q)).map (fun p=>cv (p/q) (p%q)),by simp,⟨hkk,fun i e j y he hy=>?_⟩,fun w'=>by simp[Builtin.lenOf],?_,fun w' hw'=>?_⟩
   ·have hj:j<q:=by rw[←hkk i e he];exact bO hy
    have hlt:=lQ (bO he) hj
    rw[Aj _ _ _ hlt]
    have e1:(i*q+j)/q=i:=by rw[Nat.mul_comm,Nat.mul_add_div hk,Nat.div_eq_of_lt hj,Nat.add_zero]
    have e2:(i*q+j)%q=j:=by rw[Nat.mul_comm,Nat.mul_add_mod,Nat.mod_eq_of_lt hj]
    exact⟨_,rfl,by rw[e1,e2];exact hv _ _ _ _ he hy,by rw[e1,e2];exact h11 _ _ _ _ he hy⟩
   ·intro u hu
    simp only[List.mem_map,List.mem_range] at hu
    obtain⟨p,hp,rfl⟩:=hu
    obtain⟨e,y,h1,h2⟩:=hleaf p hp
    exact h11 _ _ _ _ h1 h2
   ·exact run_firstCells_some w' q xs'.length ⟨b,o,none⟩ xs'.length cap _ aB (fun j u hj=>by
     have hlt:j<xs'.length*q:=by have:=bO hj;simpa using this
     rw[Aj _ _ _ hlt] at hj
     rw[fF,hw' b (o+j),hget j hlt];exact hj)
 ·simp only[Option.some.injEq] at hs;subst hs
  cases h.eA
  exact⟨[],by simp,⟨by simp,by simp⟩,fun w'=>by simp[Builtin.lenOf],by simp,fun w' _=>by simp[Builtin.firstCells]⟩
 ·rename_i s
  split at hs
  case isFalse=>simp at hs
  rename_i hq
  subst hq
  simp only[Option.some.injEq] at hs;subst hs
  cases h.bd
  refine⟨s.data.toList.map (fun b=>Value.int .u8 (b.toNat:Int)),by simp,⟨fun i e he=>?_,fun i e j y he hy=>?_⟩,fun w'=>?_,?_,fun w' _=>?_⟩
  ·rw[List.getElem?_map] at he
   cases hb:s.data.toList[i]? with
   |none=>simp[hb] at he
   |some b=>simp only[hb,Option.map_some,Option.some.injEq] at he;subst he;rfl
  ·rw[List.getElem?_map] at he
   cases hb:s.data.toList[i]? with
   |none=>simp[hb] at he
   |some b=>
    simp only[hb,Option.map_some,Option.some.injEq] at he;subst he
    cases j with
    |succ j=>simp[u8,AV.leaves] at hy
    |zero=>
     simp only[u8,AV.leaves,List.getElem?_cons_zero,Option.some.injEq] at hy;subst hy
     exact⟨.int .u8 (b.toNat:Int),by simp only[Nat.mul_one,Nat.add_zero,List.getElem?_map,hb,Option.map_some],.v _,rfl⟩
  ·simp[Builtin.lenOf]
  ·intro u hu
   simp only[List.mem_map] at hu
   obtain⟨b,_,rfl⟩:=hu
   rfl
  ·simp only[Builtin.firstCells,Sem.run_pure]
   congr 1
   apply Array.ext'
   have:(s.extract 0 (s.data.toList.map u8).length)=s:=by
    have h1:(s.data.toList.map u8).length=s.size:=by simp
    rw[h1]
    apply ByteArray.ext
    rw[ByteArray.data_extract]
    apply Array.ext'
    have h2:s.size=s.data.toList.length:=rfl
    simp only[Array.toList_extract,List.extract,List.drop_zero,Nat.sub_zero,h2,List.take_length]
   rw[this]
   simp only[Array.toList_map]
 ·simp at hs
theorem pT{t tx ty e:TypeId}{k:Nat}(hu:P.underlying t=some (.slice e))(hs:bj P e=some k)(hx:er P tx=true){base:Option Addr}{n cap m:Nat}{xv:Value}{news:List Value}
 (hl:(Builtin.lenOf xv).run P w= .ok m w) (hf:(Builtin.firstCells k m xv).run P w= .ok news.toArray w) (hfit:n+m≤cap):
 (Builtin.append_ #[t,tx] ty #[.slice base n cap,xv]).run P w =
   ((match base with|some a=>storeCells (a.add (n*k)) news|none=>pure ():Sem Unit).run P w).andThen fun _ w'=> .ok (.slice base (n+m) cap) w':=by
 unfold er at hx
 cases hd:P.underlying tx with
 |none=>simp[hd] at hx
 |some d=>
  unfold Builtin.append_
  cases d<;>first
   |(simp[hd] at hx;done)
   |(simp only[List.getElem?_toArray,List.getElem?_cons_zero,List.getElem?_cons_succ,Sem.run_bind,bZ hu,Result.andThen_ok,dv hs,bZ hd,Sem.run_pure,Bool.false_eq_true,if_false,hl]
     rw[if_pos hfit]
     cases base<;>simp[hf])
theorem Ce{t tx ty e:TypeId}{k:Nat}{i:TypeInfo}{z:Value}(hu:P.underlying t=some (.slice e))(hi:P.info? e=some i)(hz:i.zero=some z)(hk:i.size=k)(hx:er P tx=true)
 {base:Option Addr} {n cap m:Nat} {xv:Value} {olds news:List Value} (hl:(Builtin.lenOf xv).run P w= .ok m w)
 (hfo:(Builtin.firstCells k n (.slice base n cap)).run P w.drew= .ok olds.toArray w.drew) (hf:(Builtin.firstCells k m xv).run P w.drew= .ok news.toArray w.drew)
 (hfit:cap<n+m) (h63:n+m≤9223372036854775807) (hb:(n+m)*i.bytes≤140737488355328):
 (Builtin.append_ #[t,tx] ty #[.slice base n cap,xv]).run P w =
   .ok (.slice (some ⟨w.heap.size,0,none⟩) (n+m) (grownCap w (n+m) cap e))
    (w.drew.alloc (.cells (olds.toArray++news.toArray++Builtin.zeroCells z.cells (grownCap w (n+m) cap e-(n+m))) e)):=by
 unfold er at hx
 have hs:bj P e=some k:=by simp[bj,hi,hk]
 cases hd:P.underlying tx with
 |none=>simp[hd] at hx
 |some d=>
  have hgf:=growslice_fits hfit hb
  have hti:∀w:World,(typeInfo e).run P w= .ok i w:=fun w=>by simp[typeInfo,hi]
  have hzv:∀w:World,(zeroValue e).run P w= .ok z w:=fun w=>by simp[zeroValue,typeInfo,hi,hz]
  have hA:¬(((n+m:Nat):Int)>IntKind.i64.max∧(False∨i.bytes=0)):=by
   have:IntKind.i64.max=9223372036854775807:=by decide
   rw[this];omega
  have hB:¬(Builtin.nextslicecap (n+m) cap*i.bytes>2^48):=by omega
  unfold Builtin.append_
  cases d<;>first
   |(simp[hd] at hx;done)
   |(simp only[List.getElem?_toArray,List.getElem?_cons_zero,List.getElem?_cons_succ,Sem.run_bind,bZ hu,Result.andThen_ok,dv hs,bZ hd,Sem.run_pure,Bool.false_eq_true,if_false,hl]
     rw[if_neg ab]
     simp only[Sem.run_bind,hti,Result.andThen_ok]
     rw[if_neg hA]
     simp only[Sem.run_bind,hti,Result.andThen_ok]
     rw[if_neg hB]
     simp[hti,hzv,hf,hfo,Question.forced,newRow,grownCap]
     congr 2
     apply Array.ext'
     simp[List.append_assoc])
def spare(k m:Nat):List AV:=List.replicate m (.agg (List.replicate k .any))
def qb(P:Program)(t tx:TypeId)(s x:AV)(st:St)(K:St→AV→Prop):Prop:=
 er P tx=true∧∃e k n xs,cP P t=some (e,k,n)∧fE x k=some xs∧
  match s with
  |.sl (some tk) q es=>q=k∧st.tk[tk]?=some es.length∧es.length+xs.length≤4611686018427387904∧(es.length+xs.length)*n≤140737488355328∧
    K { st with tk:=st.tk.set tk (es.length+xs.length) } (.sl (some tk) k (es++xs))
  |.aw=>xs.length≤4611686018427387904∧xs.length*n≤140737488355328∧K { st with tk:=st.tk++[xs.length] } (.sl (some st.tk.length) k xs)
  |.mu id q off len cap=>q=k∧off=0∧xs≠[]∧len+xs.length≤4611686018427387904∧(len+xs.length)*n≤140737488355328∧
    ∃l,st.own[id]?=some (some l)∧len≤l.length∧cap=l.length∧
    ∀m,K { st with own:=st.own.set id none++[some (l.take len++xs++spare k m)] } (.mu st.own.length k 0 (len+xs.length) (len+xs.length+m))
  |_=>False
theorem Rel.pI(r:Rel w0 im0 c st a w)(k:Nat):∃c',c.le c'∧Rel w0 im0 c' { st with tk:=st.tk++[0] } a w∧VR c' (.sl (some st.tk.length) k []) (.slice none 0 0):=by
 obtain⟨h1,h2⟩:=r.rW (Below.refl _ _) (im':=c.im) (tks:=[⟨none,0,0,k⟩]) (.refl _) r.cr (fun _ _ _=>rfl)
  ⟨fun i T b hT hTb=>by
    cases i with
    |succ i=>simp at hT
    |zero=>simp only[List.getElem?_cons_zero,Option.some.injEq] at hT;subst hT;simp at hTb,
   fun i j T U b d hT hU _ _ hij=>by
    cases i with
    |succ i=>simp at hT
    |zero=>cases j with
     |zero=>exact absurd rfl hij
     |succ j=>simp at hU⟩
 exact⟨_,h1,h2,.tok (T:=⟨none,0,0,k⟩) (by simp[←r.cM]) (.di k none 0) rfl (Nat.le_refl _) (fun _=> .inl ⟨rfl,rfl⟩)⟩
theorem np(z:Array Value)(n:Nat):(Builtin.zeroCells z n).size=n*z.size:=by simp[Builtin.zeroCells]
theorem xJ(r:Rel w0 im0 c st a w){t tx ty e:TypeId}{k n:Nat}(hx:er P tx=true)(hai:cP P t=some (e,k,n)){x:AV}{xv:Value}(hxv:VR c x xv){xs:List AV}(hsrc:fE x k=some xs)
 {tk:Nat} {es:List AV} {v:Value} (hv:VR c (.sl (some tk) k es) v) (htk:st.tk[tk]?=some es.length) (h62:es.length+xs.length≤4611686018427387904) (hbt:(es.length+xs.length)*n≤140737488355328):
 ∃v' w' c',(Builtin.append_ #[t,tx] ty #[v,xv]).run P w= .ok v' w'∧Rel w0 im0 c' { st with tk:=st.tk.set tk (es.length+xs.length) } a w'∧VR c' (.sl (some tk) k (es++xs)) v':=by
 obtain⟨hu,hs,hk0,i,zv,hi,hz,hsize,hbytes,hzs⟩:=gr hai
 obtain⟨news,hnl,hnc,hlen,hone,hfirst⟩:=oK (P:=P) r hxv hk0 hsrc
 cases hv with
 |base h=>cases h
 |tok hT h0 hTk hle hcur=>
  rename_i T
  have htail:=r.tail tk T hT
  rw[htk] at htail
  simp only[Option.some.injEq] at htail
  have hcur':=hcur htail
  have htlt:tk<c.tk.length:=bO hT
  have holds:∃olds:List Value,olds.length=es.length*k∧Cells c.im k es olds∧∀w',(∀b o,w'.cell? ⟨b,o,none⟩=w.cell? ⟨b,o,none⟩)→(Builtin.firstCells k es.length v).run P w'= .ok olds.toArray w':=by
   obtain⟨olds,h1,h2,_,_,h5⟩:=oK (P:=P) r (x:= .sl none k es) (v:=v) (xs:=es) (.base h0) hk0 (by simp[fE])
   exact⟨olds,h1,h2,h5⟩
  obtain⟨olds,hol,hoc,hof⟩:=holds
  by_cases hm0:xs.length=0
  ·
   have hxs:xs=[]:=List.eq_nil_of_length_eq_zero hm0
   subst hxs
   have hnews:news=[]:=List.eq_nil_of_length_eq_zero (by simpa using hnl)
   subst hnews
   have hset:st.tk.set tk es.length=st.tk:=by
    apply List.ext_getElem?
    intro j
    rw[List.getElem?_set]
    by_cases hj:tk=j
    ·subst hj;rw[if_pos rfl,htk];simp[bO htk]
    ·rw[if_neg hj]
   simp only[List.length_nil,Nat.add_zero,List.append_nil,hset]
   have hvs:∃base cap,v= .slice base es.length cap∧es.length≤cap:=by
    obtain⟨a',cap,hv,hc,_⟩:=h0.fu
    exact⟨a',cap,hv,hc⟩
   obtain⟨base,cap,rfl,hcap⟩:=hvs
   have hrun:=pT (P:=P) (w:=w) (ty:=ty) (base:=base) (n:=es.length) (cap:=cap) hu hs hx (hlen w) (hfirst w (fun _ _=>rfl)) hcap
   refine⟨.slice base es.length cap,w,c,?_,r,.tok hT h0 hTk hle hcur⟩
   rw[hrun]
   cases base<;>simp[storeCells]
  ·have hmpos:0<xs.length:=Nat.pos_of_ne_zero hm0
   have hcells:=hoc.append hol hnc
   have hal:(olds++news).length=(es++xs).length*k:=by simp[hol,hnl,Nat.add_mul]
   have grow:∀(base:Option Addr) (cap:Nat),v= .slice base es.length cap→cap<es.length+xs.length→
    ∃v' w' c',(Builtin.append_ #[t,tx] ty #[v,xv]).run P w= .ok v' w'∧Rel w0 im0 c' { st with tk:=st.tk.set tk (es.length+xs.length) } a w'∧VR c' (.sl (some tk) k (es++xs)) v':=by
    rintro base cap rfl hfit
    have hrun:=Ce (P:=P) (w:=w) (ty:=ty) (base:=base) (n:=es.length) (cap:=cap) (m:=xs.length) hu hi hz hsize hx (hlen w) (hof w.drew (fun _ _=>rfl)) (hfirst w.drew (fun _ _=>rfl)) hfit ab (by rw[hbytes];exact hbt)
    let N:=es.length+xs.length
    let C:=grownCap w N cap e
    have hC:N≤C:=grownCap_ge w N cap e
    let aZ:Array Value:=olds.toArray++news.toArray++Builtin.zeroCells zv.cells (C-N)
    let w':=w.drew.alloc (.cells aZ e)
    have hblk:w'.heap[w.heap.size]?=some (.cells aZ e (0,0)):=jw w.drew _
    have hbsz:aZ.size=C*k:=by
     simp only[aZ,Array.size_append,List.size_toArray,hol,hnl,np,hzs]
     rw[←Nat.add_mul,←Nat.add_mul]
     congr 1
     omega
    let im':Im:=fun b o=>if b=w.heap.size then(if o<N*k then aZ.toList[o]? else none) else c.im b o
    have him:c.im.le im':=fun b o x h=>by
     have:=r.mM h
     show(if b=w.heap.size then _ else c.im b o)=some x
     rw[if_neg ab];exact h
    have hb':Below im0.dr w.heap.size w w':=o5 w _
    obtain⟨h1,h2⟩:=r.Cv (T':=⟨some w.heap.size,N,C,k⟩) (w':=w') (im':=im') hT hTk.symm (by show T.tail<N;omega) (fun b hb _=>hb'.block b hb) (r.below.trans (hb'.mono r.below.size)) him
     (fun b o x h=>by
       by_cases hbg:b=w.heap.size
       ·subst hbg
        simp only[im',if_true] at h
        split at h
        ·simp only[World.cell?,hblk,Option.isSome_none,Bool.false_eq_true,if_false]
         simpa using h
        ·simp at h
       ·simp only[im',if_neg hbg] at h
        rw[cell_of_block (hb'.block b (r.mM h))]
        exact r.cr b o x h)
     (fun b o hlt _=>by show(if b=w.heap.size then _ else _)=_;rw[if_neg ab])
     (fun b hb=>by
       simp only[Option.some.injEq] at hb
       subst hb
       exact⟨.inr (Nat.le_refl _),r.below.size,hC,fun o ho=>by show(if w.heap.size=w.heap.size then _ else _)=none;rw[if_pos rfl,if_neg (Nat.not_lt.2 ho)],aZ,e,0,0,hblk,.inl rfl,by rw[hbsz];exact Nat.le_refl _⟩)
    refine⟨_,_,_,hrun,h2,?_⟩
    have hVR:aS im' (.sl none k (es++xs)) (.slice (some ⟨w.heap.size,0,none⟩) (es++xs).length C):=
     aS.vX (hcells.mono him) (by simp;exact hC) (fun p u hp hu'=>by
      show(if w.heap.size=w.heap.size then _ else _)=_
      have hp':p<N*k:=by simpa[N] using hp
      rw[if_pos rfl,Nat.zero_add,if_pos hp']
      simp only[aZ,Array.toList_append]
      rw[List.getElem?_append_left (by simp;have:=bO hu';simpa using this)]
      simpa using hu')
    have hfin:VR ⟨c.β,c.tk.set tk ⟨some w.heap.size,N,C,k⟩,im'⟩ (.sl (some tk) k (es++xs)) (.slice (some ⟨w.heap.size,0,none⟩) (es++xs).length C):=
     .tok (T:=⟨some w.heap.size,N,C,k⟩) (by simp[htlt]) hVR rfl (by simp[N]) (fun _=> .inr ⟨_,rfl,rfl⟩)
    simpa[N,C] using hfin
   rcases hcur' with⟨hn0,hv⟩|⟨b,hTb,hv⟩
   ·refine grow none 0 ?_ ab
    rw[hv,hn0]
   ·by_cases hroom:es.length+xs.length≤T.cap
    ·
     have hto:=r.tok tk T b hT hTb
     obtain⟨cs,ty',lo,hi',hblk,hfro0,hsz⟩:=hto.aZ
     have hfro:∀o,o<cs.size→¬(lo≤o∧o<hi'):=fun o h1 h2=>by omega
     subst hTk
     have hmul:(es.length+xs.length)*T.k≤T.cap*T.k:=Nat.mul_le_mul_right _ hroom
     have hcs:cs=cs.toList.toArray:=by simp
     have hfit2:es.length*T.k+0+news.length≤cs.toList.length:=by
      rw[hnl];simp only[Nat.add_mul] at hmul;simp;omega
     have hst:=ma (P:=P) b (es.length*T.k) ty' lo hi' news 0 cs.toList w (by rw[←hcs];exact hblk) (by simpa using hfro) hfit2 hone
     rw[Nat.add_zero] at hst
     subst hv
     have hrun:=pT (P:=P) (w:=w) (ty:=ty) (base:=some ⟨b,0,none⟩) (n:=es.length) (cap:=T.cap) hu hs hx (hlen w) (hfirst w (fun _ _=>rfl)) hroom
     simp only[fF,Nat.zero_add,hst,Result.andThen_ok] at hrun
     let cs':=cn cs.toList (es.length*T.k) news
     let w':=w.setRow b cs'.toArray
     have hblk':w'.heap[b]?=some (.cells cs'.toArray ty' (lo,hi')):=setRow_heap w b cs _ ty' (lo,hi') hblk
     let N:=es.length+xs.length
     let im':Im:=fun b' o=>if b'=b∧es.length*T.k≤o∧o<N*T.k then cs'[o]? else c.im b' o
     have hoff:∀o x,c.im b o=some x→o<es.length*T.k:=fun o x h=>by
      rcases Nat.lt_or_ge o (es.length*T.k) with h'|h'
      ·exact h'
      ·rw[hto.im o (by rw[←htail];exact h')] at h;simp at h
     have him:c.im.le im':=fun b' o x h=>by
      show(if b'=b∧_ then _ else c.im b' o)=some x
      rw[if_neg]
      ·exact h
      ·rintro⟨rfl,h1,_⟩
       have:=hoff o x h;omega
     have hb':Below im0.dr w0.heap.size w0 w':=below_setRow r.below hto.new _
     have hbeff:=r.la hT hTb
     obtain⟨h1,h2⟩:=r.Cv (T':=⟨some b,N,T.cap,T.k⟩) (w':=w') (im':=im') hT rfl (by show T.tail<N;omega)
      (fun b' hb2 hne=>setRow_other w b b' _ (fun e=>hne (by rw[hTb,e]))) hb' him
      (fun b' o x h=>by
        by_cases hc:b'=b∧es.length*T.k≤o∧o<N*T.k
        ·simp only[im',if_pos hc] at h
         obtain⟨rfl,_⟩:=hc
         simp only[World.cell?,hblk',Option.isSome_none,Bool.false_eq_true,if_false]
         simpa using h
        ·simp only[im',if_neg hc] at h
         by_cases hbb:b'=b
         ·subst hbb
          have hlt:=hoff o x h
          have:=r.cr _ _ _ h
          simp only[World.cell?,hblk,Option.isSome_none,Bool.false_eq_true,if_false] at this
          simp only[World.cell?,hblk',Option.isSome_none,Bool.false_eq_true,if_false,List.getElem?_toArray,cs']
          rw[j8 _ _ _ _ ab,if_neg ab]
          simpa using this
         ·rw[cell_of_block (setRow_other w b b' _ hbb)]
          exact r.cr _ _ _ h)
      (fun b' o hlt hne=>by
        show(if b'=b∧_ then _ else _)=_
        rw[if_neg (fun h=>hne (by rw[hTb,h.1]))])
      (fun b' hbb=>by
        simp only[Option.some.injEq] at hbb
        subst hbb
        refine⟨.inl hTb,hto.new,hroom,fun o ho=>?_,cs'.toArray,ty',lo,hi',hblk',by simpa[cs',gF] using hfro0,by simp only[List.size_toArray,cs',gF];simpa using hsz⟩
        show(if b=b∧_ then _ else c.im b o)=none
        rw[if_neg (fun h=>by have:=h.2.2;simp only[N] at *;omega)]
        refine hto.im o ?_
        rw[←htail]
        have ho':(es.length+xs.length)*T.k≤o:=ho
        rw[Nat.add_mul] at ho'
        omega)
     refine⟨_,_,_,hrun,h2,?_⟩
     have hVR:aS im' (.sl none T.k (es++xs)) (.slice (some ⟨b,0,none⟩) (es++xs).length T.cap):=by
      have hold:∀(p:Nat) (u:Value),p<es.length*T.k→olds[p]?=some u→∃u',c.im b p=some u':=fun p u hp hu'=>by
       obtain⟨a',cap',hva,hcap',hes⟩:=h0.fu
       simp only[Value.slice.injEq] at hva
       obtain⟨rfl,_,rfl⟩:=hva
       rcases hes with rfl|⟨b2,o2,hbo,hkk,cv,hm,h11,hv⟩
       ·simp at hp
       ·simp only[Option.some.injEq,Addr.mk.injEq] at hbo
        obtain⟨rfl,rfl,_⟩:=hbo
        have hdiv:p/T.k<es.length:=Nat.div_lt_of_lt_mul (by rw[Nat.mul_comm];exact hp)
        have hl2:=hkk (p/T.k) es[p/T.k] (by simp[hdiv])
        have h3:p%T.k<es[p/T.k].leaves.length:=by rw[hl2];exact Nat.mod_lt _ hk0
        have:=hm (p/T.k) es[p/T.k] (p%T.k) es[p/T.k].leaves[p%T.k] (by simp[hdiv]) (by simp[h3])
        rw[Nat.add_assoc,yM,Nat.zero_add] at this
        exact⟨_,this⟩
      have hcs'get:∀p,p<es.length*T.k→cs'[p]?=cs.toList[p]?:=fun p hp=>by
       simp only[cs'];rw[j8 _ _ _ _ ab,if_neg ab]
      have hc2:Cells im' T.k (es++xs) cs':=by
       have hA:Cells im' T.k es (cs'.take (es.length*T.k)):=by
        obtain⟨a',cap',hva,hcap',hes⟩:=h0.fu
        simp only[Value.slice.injEq] at hva
        obtain⟨rfl,_,rfl⟩:=hva
        rcases hes with rfl|⟨b2,o2,hbo,hkk,cv,hm,h11,hv⟩
        ·exact⟨by simp,by simp⟩
        ·simp only[Option.some.injEq,Addr.mk.injEq] at hbo
         obtain⟨rfl,rfl,_⟩:=hbo
         refine⟨hkk,fun i e j y he hy=>?_⟩
         have hj:j<T.k:=by rw[←hkk i e he];exact bO hy
         have hlt:=lQ (bO he) hj
         have h5:=r.cr _ _ _ (hm i e j y he hy)
         simp only[World.cell?,hblk,Option.isSome_none,Bool.false_eq_true,if_false,Nat.zero_add] at h5
         refine⟨cv i j,?_,(hv i e j y he hy).mono him,h11 i e j y he hy⟩
         rw[List.getElem?_take,if_pos hlt,hcs'get _ hlt]
         simpa using h5
       have hB:Cells im' T.k xs (cs'.drop (es.length*T.k)):=by
        refine⟨hnc.1,fun i e j y he hy=>?_⟩
        obtain⟨u,h5,h6,h7⟩:=hnc.2 i e j y he hy
        refine⟨u,?_,h6.mono him,h7⟩
        have:=bO h5
        rw[List.getElem?_drop]
        simp only[cs']
        rw[j8 _ _ _ _ ab,if_pos ab]
        rw[show es.length*T.k+(i*T.k+j)-es.length*T.k=i*T.k+j by omega]
        exact h5
       have:=hA.append (by simp only[List.length_take,cs',gF];omega) hB
       rwa[List.take_append_drop] at this
      refine aS.vX hc2 (by simp;exact hroom) (fun p u hp hu'=>?_)
      rw[Nat.zero_add]
      by_cases hp2:es.length*T.k≤p
      ·show(if b=b∧_ then _ else _)=_
       rw[if_pos ⟨rfl,hp2,by simpa[N] using hp⟩];exact hu'
      ·have hp3:p<es.length*T.k:=by omega
       have hop:p<olds.length:=by omega
       obtain⟨u',hu2⟩:=hold p olds[p] hp3 (by simp[hop])
       rw[him _ _ _ hu2]
       have:=r.cr _ _ _ hu2
       simp only[World.cell?,hblk,Option.isSome_none,Bool.false_eq_true,if_false] at this
       rw[hcs'get p hp3] at hu'
       simp only[←Array.getElem?_toList] at this
       rw[this] at hu'
       exact hu'
     have hfin:VR ⟨c.β,c.tk.set tk ⟨some b,N,T.cap,T.k⟩,im'⟩ (.sl (some tk) T.k (es++xs)) (.slice (some ⟨b,0,none⟩) (es++xs).length T.cap):=
      .tok (T:=⟨some b,N,T.cap,T.k⟩) (by simp[htlt]) hVR rfl (by simp[N]) (fun _=> .inr ⟨_,rfl,rfl⟩)
     simpa[N] using hfin
    ·exact grow (some ⟨b,0,none⟩) T.cap hv ab
def cD(c:Ctx)(k:Nat)(es:List AV)(cs:List Value):Prop:=
 (∀(i:Nat) (e:AV),es[i]?=some e→e.leaves.length=k)∧
 ∀(i:Nat) (e:AV) (j:Nat) (x:AV),es[i]?=some e→e.leaves[j]?=some x→∃v,cs[i*k+j]?=some v∧VR c x v∧(x= .any∨v.oneCell'=true)
theorem da(k m:Nat):(spare k m).length=m:=by simp[spare]
theorem cD.append{c:Ctx}{k:Nat}{es xs:List AV}{cs ds:List Value}(h1:cD c k es cs)(hl:cs.length=es.length*k)(h2:cD c k xs ds):cD c k (es++xs) (cs++ds):=by
 refine⟨fun i e he=>?_,fun i e j y he hy=>?_⟩
 ·rcases fY _ _ _ _ he with⟨_,he⟩|⟨_,he⟩
  ·exact h1.1 i e he
  ·exact h2.1 _ e he
 ·rcases fY _ _ _ _ he with⟨hlt,he⟩|⟨hge,he⟩
  ·obtain⟨u,a,b⟩:=h1.2 i e j y he hy
   exact⟨u,by rw[List.getElem?_append_left (bO a)];exact a,b⟩
  ·obtain⟨u,a,b⟩:=h2.2 _ e j y he hy
   have hik:es.length*k≤i*k:=Nat.mul_le_mul_right k hge
   refine⟨u,?_,b⟩
   rw[List.getElem?_append_right ab,hl,show i*k+j-es.length*k=(i-es.length)*k+j by rw[Nat.sub_mul];omega]
   exact a
theorem cD.of{c:Ctx}{k:Nat}{es:List AV}{cs:List Value}(h:Cells c.im k es cs):cD c k es cs:=
 ⟨h.1,fun i e j y he hy=>by obtain⟨u,a,b,d⟩:=h.2 i e j y he hy;exact⟨u,a,.base b,.inr d⟩⟩
theorem cD.spare{c:Ctx}{k m:Nat}{cs:List Value}(h:m*k≤cs.length):cD c k (spare k m) cs:=by
 refine⟨fun i e he=>?_,fun i e j x he hx=>?_⟩
 ·have:=List.mem_of_getElem? he
  simp only[az.spare,List.mem_replicate] at this
  rw[this.2];simp[AV.leaves]
 ·have h1:=bO he
  rw[da] at h1
  have:=List.mem_of_getElem? he
  simp only[az.spare,List.mem_replicate] at this
  rw[this.2] at hx
  simp only[AV.leaves] at hx
  have h2:=bO hx
  rw[List.length_replicate] at h2
  have h3:=List.mem_of_getElem? hx
  simp only[List.mem_replicate] at h3
  have hlt:=lQ h1 h2
  exact⟨cs[i*k+j],List.getElem?_eq_getElem ab,by rw[h3.2];exact .base (.any _),.inl h3.2⟩
theorem cD.take{c:Ctx}{k:Nat}{es sp:List AV}{cs:List Value}(h:cD c k (es++sp) cs):cD c k es (cs.take (es.length*k)):=by
 refine⟨fun i e he=>h.1 i e (by rw[List.getElem?_append_left (bO he)];exact he),fun i e j x he hx=>?_⟩
 have he':(es++sp)[i]?=some e:=by rw[List.getElem?_append_left (bO he)];exact he
 obtain⟨v,h1,h2⟩:=h.2 i e j x he' hx
 have hlt:=lQ (bO he) (show j<k by rw[←h.1 i e he'];exact bO hx)
 exact⟨v,by rw[List.getElem?_take,if_pos hlt];exact h1,h2⟩
theorem Rel.vS(r:Rel w0 im0 c st a w){id g k:Nat}{es:List AV}(h1:c.β[id]?=some (some (g,k)))(h2:st.own[id]?=some (some es)):
 c.le { c with β:=c.β++[some (g,k)] }∧Rel w0 im0 { c with β:=c.β++[some (g,k)] } { st with own:=st.own.set id none++[some es] } a w:=by
 have hle:c.le { c with β:=c.β++[some (g,k)] }:=⟨fun i p h=>by
  show(c.β++[some (g,k)])[i]?=some p
  rw[List.getElem?_append_left (bO h)];exact h,fun t T h=>⟨T,h,rfl,.inl rfl⟩,.refl _⟩
 have conv:∀{i:Nat} {e:List AV},(st.own.set id none++[some es])[i]?=some (some e)→(i<st.own.length∧i≠id∧st.own[i]?=some (some e))∨(i=st.own.length∧e=es):=by
  intro i e he
  rcases lP _ _ _ _ he with⟨hl,he2⟩|⟨hl,he2⟩
  ·rw[List.getElem?_set] at he2
   by_cases hi':id=i
   ·subst hi';rw[if_pos rfl] at he2;split at he2<;>simp at he2
   ·rw[if_neg hi'] at he2;exact .inl ⟨by simpa using hl,Ne.symm hi',he2⟩
  ·cases he2;exact .inr ⟨by simpa using hl,rfl⟩
 have hβ:∀{i:Nat} {p:Option (Nat×Nat)},i<st.own.length→(c.β++[some (g,k)])[i]?=some p→c.β[i]?=some p:=by
  intro i p hi he
  rw[List.getElem?_append_left (by rw[r.bU];exact hi)] at he;exact he
 have hβl:∀{p:Option (Nat×Nat)},(c.β++[some (g,k)])[st.own.length]?=some p→p=some (g,k):=by
  intro p he
  rw[List.getElem?_append_right (by rw[r.bU];exact Nat.le_refl _),r.bU,Nat.sub_self] at he
  simpa using he.symm
 refine⟨hle,r.defers,r.size,fun i x v e1 e2=>(r.tmps i x v e1 e2).mono hle,r.below,r.dc,r.dq,r.cr,by simp[r.bU],fun i g' k' es' e1 e2=>?_,r.cM,r.tail,r.tok,⟨?_,?_,r.apart.tt⟩,r.dy,⟨r.up.1,fun i x v e1 e2=>(r.up.2 i x v e1 e2).mono hle⟩,fun l d i e1 e2=>?_⟩
 ·rcases conv e2 with⟨hl,_,he⟩|⟨rfl,rfl⟩
  ·exact(r.own i g' k' es' (hβ hl e1) he).mono hle (r.own i g' k' es' (hβ hl e1) he).im rfl
  ·have:=hβl e1
   simp only[Option.some.injEq,Prod.mk.injEq] at this
   obtain⟨rfl,rfl⟩:=this
   exact(r.own id _ _ _ h1 h2).mono hle (r.own id _ _ _ h1 h2).im rfl
 ·intro i j g1 k1 g2 k2 e1 e2 a1 a2 a3 a4 hij
  rcases conv a3 with⟨hl,hn,he⟩|⟨rfl,rfl⟩
  ·rcases conv a4 with⟨hl2,hn2,he2⟩|⟨rfl,rfl⟩
   ·exact r.apart.oo i j g1 k1 g2 k2 e1 e2 (hβ hl a1) (hβ hl2 a2) he he2 hij
   ·have:=hβl a2
    simp only[Option.some.injEq,Prod.mk.injEq] at this
    obtain⟨rfl,rfl⟩:=this
    exact r.apart.oo i id g1 k1 _ _ e1 _ (hβ hl a1) h1 he h2 hn
  ·have h3:=hβl a1
   simp only[Option.some.injEq,Prod.mk.injEq] at h3
   obtain⟨rfl,rfl⟩:=h3
   rcases conv a4 with⟨hl2,hn2,he2⟩|⟨rfl,rfl⟩
   ·exact r.apart.oo id j _ _ g2 k2 _ e2 h1 (hβ hl2 a2) h2 he2 (Ne.symm hn2)
   ·exact absurd rfl hij
 ·intro i t g1 k1 e1 T b a1 a2 a3 a4
  rcases conv a2 with⟨hl,_,he⟩|⟨rfl,rfl⟩
  ·exact r.apart.ot i t g1 k1 e1 T b (hβ hl a1) he a3 a4
  ·have:=hβl a1
   simp only[Option.some.injEq,Prod.mk.injEq] at this
   obtain⟨rfl,rfl⟩:=this
   exact r.apart.ot id t _ _ _ T b h1 h2 a3 a4
 ·have:=r.hole l d i e1 e2
  show(c.β++[some (g,k)])[i]?=some none
  rw[List.getElem?_append_left (bO this)];exact this
theorem Rel.Ma(r:Rel w0 im0 c st a w)(id:Nat):Rel w0 im0 c { st with own:=st.own.set id none } a w:=by
 have conv:∀{i:Nat} {e:List AV},(st.own.set id none)[i]?=some (some e)→st.own[i]?=some (some e):=by
  intro i e he
  rw[List.getElem?_set] at he
  by_cases hi':id=i
  ·subst hi';rw[if_pos rfl] at he;split at he<;>simp at he
  ·rw[if_neg hi'] at he;exact he
 exact⟨r.defers,r.size,r.tmps,r.below,r.dc,r.dq,r.cr,by simp[r.bU],fun i g k es h1 h2=>r.own i g k es h1 (conv h2),r.cM,r.tail,r.tok,
  ⟨fun i j g1 k1 g2 k2 e1 e2 a1 a2 a3 a4 hij=>r.apart.oo i j g1 k1 g2 k2 e1 e2 a1 a2 (conv a3) (conv a4) hij,fun i t g1 k1 e1 T b a1 a2 a3 a4=>r.apart.ot i t g1 k1 e1 T b a1 (conv a2) a3 a4,r.apart.tt⟩,r.dy,r.up,r.hole⟩
theorem uo(r:Rel w0 im0 c st a w){t tx ty e:TypeId}{k n:Nat}(hx:er P tx=true)(hai:cP P t=some (e,k,n)){x:AV}{xv:Value}(hxv:VR c x xv){xs:List AV}(hsrc:fE x k=some xs)(hne:xs≠[])
 {id:Nat} {es sp:List AV} {v:Value} (hv:VR c (.mu id k 0 es.length (es.length+sp.length)) v) (ho:st.own[id]?=some (some (es++sp))) (h62:es.length+xs.length≤4611686018427387904) (hbt:(es.length+xs.length)*n≤140737488355328):
 ∃v' w' c' m,(Builtin.append_ #[t,tx] ty #[v,xv]).run P w= .ok v' w'∧Rel w0 im0 c' { st with own:=st.own.set id none++[some (es++xs++spare k m)] } a w'∧VR c' (.mu st.own.length k 0 (es.length+xs.length) (es.length+xs.length+m)) v':=by
 obtain⟨hu,hs,hk0,i,zv,hi,hz,hsize,hbytes,hzs⟩:=gr hai
 obtain⟨news,hnl,hnc,hlen,hone,hfirst⟩:=oK (P:=P) r hxv hk0 hsrc
 have hmpos:0<xs.length:=List.length_pos_iff.2 hne
 have grow:∀(base:Option Addr) (cap:Nat) (olds:List Value),v= .slice base es.length cap→cap<es.length+xs.length→olds.length=es.length*k→cD c k es olds→(Builtin.firstCells k es.length v).run P w.drew= .ok olds.toArray w.drew→
  ∃v' w' c' m,(Builtin.append_ #[t,tx] ty #[v,xv]).run P w= .ok v' w'∧Rel w0 im0 c' { st with own:=st.own.set id none++[some (es++xs++spare k m)] } a w'∧VR c' (.mu st.own.length k 0 (es.length+xs.length) (es.length+xs.length+m)) v':=by
  rintro base cap olds rfl hfit hol hoc hof
  have hrun:=Ce (P:=P) (w:=w) (ty:=ty) (base:=base) (n:=es.length) (cap:=cap) (m:=xs.length) hu hi hz hsize hx (hlen w) hof (hfirst w.drew (fun _ _=>rfl)) hfit ab (by rw[hbytes];exact hbt)
  have hC:=grownCap_ge w (es.length+xs.length) cap e
  refine⟨_,_,_,grownCap w (es.length+xs.length) cap e-(es.length+xs.length),hrun,((r.Ma id).oW (k:=k) (g:=w.heap.size) (o5 w _) (Nat.le_refl _) ⟨_,e,0,0,jw w.drew _,.inl rfl,?_,?_⟩).2,?_⟩
  ·simp only[Array.size_append,List.size_toArray,hol,hnl,np,hzs,List.length_append,da,Nat.add_mul];omega
  ·have hcells:cD c k (es++xs++spare k (grownCap w (es.length+xs.length) cap e-(es.length+xs.length))) ((olds++news)++(Builtin.zeroCells zv.cells (grownCap w (es.length+xs.length) cap e-(es.length+xs.length))).toList):=
    ((hoc.append hol (cD.of hnc)).append (by simp[hol,hnl,Nat.add_mul]) (cD.spare (by simp only[Array.length_toList,np,hzs];exact Nat.le_refl _)))
   refine⟨hcells.1,fun i e j x he hx=>?_⟩
   obtain⟨u,h1,h2⟩:=hcells.2 i e j x he hx
   refine⟨u,?_,h2⟩
   rw[←Array.getElem?_toList]
   simpa using h1
  ·have:=VR.mu (c:={ c with β:=c.β++[some (w.heap.size,k)] }) (id:=st.own.length) (off:=0) (len:=es.length+xs.length) (g:=w.heap.size) (k:=k) (cap:=grownCap w (es.length+xs.length) cap e) (by show(c.β++[_])[_]?=_;rw[←r.bU];simp) hC
   rw[Nat.zero_mul] at this
   rw[show es.length+xs.length+(grownCap w (es.length+xs.length) cap e-(es.length+xs.length))=grownCap w (es.length+xs.length) cap e by omega]
   exact this
 rcases hv.cZ with⟨g,hb,hcap,hve⟩|⟨hz1,hz2,hve⟩
 ·have hown:=r.own id g k _ hb ho
  obtain⟨cs,ty',lo,hi',hblk,hfr,hsz,hlv,hcell⟩:=hown.aZ
  rw[Nat.zero_mul] at hve
  have hoc:cD c k (es++sp) cs.toList:=⟨hlv,fun i e j x he hx=>by obtain⟨u,h1,h2⟩:=hcell i e j x he hx;exact⟨u,by simpa using h1,h2⟩⟩
  have hoc1:=hoc.take
  rw[List.length_append] at hsz
  have hesz:es.length*k≤cs.size:=by rw[Nat.add_mul] at hsz;omega
  have hol:(cs.toList.take (es.length*k)).length=es.length*k:=by have hq:cs.toList.length=cs.size:=Array.length_toList;rw[List.length_take,hq];omega
  have hof:∀w',(∀b o,w'.cell? ⟨b,o,none⟩=w.cell? ⟨b,o,none⟩)→(Builtin.firstCells k es.length v).run P w'= .ok (cs.toList.take (es.length*k)).toArray w':=fun w' hw'=>by
   rw[hve]
   exact run_firstCells_some w' k es.length ⟨g,0,none⟩ es.length _ _ hol (fun j u hj=>by
    rw[fF,Nat.zero_add,hw']
    rw[List.getElem?_take] at hj
    split at hj
    ·simp only[World.cell?,hblk,Option.isSome_none,Bool.false_eq_true,if_false];simpa using hj
    ·simp at hj)
  by_cases hroom:es.length+xs.length≤es.length+sp.length
  ·have hfro:∀o,o<cs.toList.length→¬(lo≤o∧o<hi'):=fun o h1 h2=>by
    have h1:o<cs.size:=by simpa using h1
    rcases hfr with h|h<;>omega
   have hmul:(es.length+xs.length)*k≤(es.length+sp.length)*k:=Nat.mul_le_mul_right _ hroom
   have hcs:cs=cs.toList.toArray:=by simp
   have hfit2:es.length*k+0+news.length≤cs.toList.length:=by
    rw[hnl];simp only[Nat.add_mul] at hmul hsz;simp;omega
   have hst:=ma (P:=P) g (es.length*k) ty' lo hi' news 0 cs.toList w (by rw[←hcs];exact hblk) hfro hfit2 hone
   rw[Nat.add_zero] at hst
   have hrun:=pT (P:=P) (w:=w) (ty:=ty) (base:=some ⟨g,0,none⟩) (n:=es.length) (cap:=es.length+sp.length) hu hs hx (hlen w) (hfirst w (fun _ _=>rfl)) hroom
   simp only[fF,Nat.zero_add,hst,Result.andThen_ok] at hrun
   have hcs'len:(cn cs.toList (es.length*k) news).length=cs.size:=by rw[gF];simp
   have hOC:cD c k (es++xs++spare k (sp.length-xs.length)) (cn cs.toList (es.length*k) news):=by
    have e1:cn cs.toList (es.length*k) news=(cs.toList.take (es.length*k)++news)++(cn cs.toList (es.length*k) news).drop ((es.length+xs.length)*k):=by
     apply List.ext_getElem?
     intro p
     by_cases hp:p<(es.length+xs.length)*k
     ·rw[List.getElem?_append_left (by rw[List.length_append,hol,hnl,←Nat.add_mul];exact hp),j8 _ _ _ _ (by simpa using hfit2)]
      by_cases hp2:p<es.length*k
      ·rw[if_neg ab,List.getElem?_append_left (by rw[hol];exact hp2),List.getElem?_take,if_pos hp2]
      ·rw[Nat.add_mul] at hp
       rw[if_pos ab,List.getElem?_append_right (by rw[hol];omega),hol]
     ·rw[List.getElem?_append_right (by rw[List.length_append,hol,hnl,←Nat.add_mul];omega),List.length_append,hol,hnl,←Nat.add_mul,List.getElem?_drop]
      congr 1;omega
    rw[e1]
    exact((hoc1.append hol (cD.of hnc)).append (by rw[List.length_append,List.length_append,hol,hnl,←Nat.add_mul]) (cD.spare (by
     rw[List.length_drop,hcs'len]
     simp only[Nat.add_mul,Nat.sub_mul] at *
     omega)))
   have hset:=r.oH (w':=w.setRow g (cn cs.toList (es.length*k) news).toArray) (es':=es++xs++spare k (sp.length-xs.length)) hb ho (fun b hne=>setRow_other w g b _ hne) (below_setRow r.below hown.new _)
    ⟨(cn cs.toList (es.length*k) news).toArray,ty',lo,hi',setRow_heap w g cs _ ty' (lo,hi') hblk,by
      rcases hfr with h|h
      ·exact .inl h
      ·exact .inr (by simpa[gF] using h),by
      simp only[List.size_toArray,hcs'len,List.length_append,da]
      have:es.length+xs.length+(sp.length-xs.length)=es.length+sp.length:=by omega
      rw[this];exact hsz,hOC.1,fun i e j x he hx=>by
      obtain⟨u,h1,h2⟩:=hOC.2 i e j x he hx
      exact⟨u,by simpa using h1,h2⟩⟩
   have hidlt:=bO ho
   obtain⟨hle,hmv⟩:=hset.vS (id:=id) (es:=es++xs++spare k (sp.length-xs.length)) hb (by show(st.own.set id _)[id]?=_;rw[List.getElem?_set_self hidlt])
   have hsetset:(st.own.set id (some (es++xs++spare k (sp.length-xs.length)))).set id none=st.own.set id none:=by simp
   refine⟨_,_,_,sp.length-xs.length,by rw[hve];exact hrun,by
    have:=hmv
    simp only[hsetset] at this
    exact this,?_⟩
   have:=VR.mu (c:={ c with β:=c.β++[some (g,k)] }) (id:=st.own.length) (off:=0) (len:=es.length+xs.length) (g:=g) (k:=k) (cap:=es.length+sp.length) (by show(c.β++[_])[_]?=_;rw[←r.bU];simp) hroom
   rw[Nat.zero_mul] at this
   rw[show es.length+xs.length+(sp.length-xs.length)=es.length+sp.length by omega]
   exact this
  ·exact grow (some ⟨g,0,none⟩) (es.length+sp.length) _ hve ab hol hoc1 (hof w.drew (fun _ _=>rfl))
 ·have hes:es=[]:=List.eq_nil_of_length_eq_zero hz1
  subst hes
  exact grow none 0 [] (by rw[hve];rfl) (by simpa using hmpos) aB ⟨by simp,by simp⟩ (by rw[hve];exact run_firstCells_none w.drew k 0 0 0)
theorem El(r:Rel w0 im0 c st a w){t tx ty:TypeId}{s x:AV}{sv xv:Value}(hsv:VR c s sv)(hxv:VR c x xv){K:St→AV→Prop}(hk:qb P t tx s x st K):
 ∃v y w' c' st',(Builtin.append_ #[t,tx] ty #[sv,xv]).run P w= .ok v w'∧Rel w0 im0 c' st' a w'∧VR c' y v∧K st' y:=by
 obtain⟨hx,e,k,n,xs,hai,hsrc,hk⟩:=hk
 split at hk
 ·obtain⟨rfl,h1,h2,h3,hk⟩:=hk
  obtain⟨v',w',c',hr,hR,hV⟩:=xJ (P:=P) (ty:=ty) r hx hai hxv hsrc hsv h1 h2 h3
  exact⟨v',_,w',c',_,hr,hR,hV,hk⟩
 ·obtain⟨h2,h3,hk⟩:=hk
  cases hsv.eA
  obtain⟨c1,hle,r1,hv1⟩:=r.pI k
  obtain⟨v',w',c',hr,hR,hV⟩:=xJ (P:=P) (ty:=ty) r1 hx hai (hxv.mono hle) hsrc hv1 aB (by simpa using h2) (by simpa using h3)
  refine⟨v',_,w',c',_,hr,?_,?_,hk⟩
  ·have:(st.tk++[0]).set st.tk.length ((([]:List AV)).length+xs.length)=st.tk++[xs.length]:=by simp
   rw[←this];exact hR
  ·simpa using hV
 ·rename_i id q off len cap
  obtain⟨rfl,rfl,hne,h2,h3,l,ho,hl,rfl,hk⟩:=hk
  have e1:(l.take len).length=len:=by rw[List.length_take];omega
  have e2:l.length=(l.take len).length+(l.drop len).length:=by rw[List.length_take,List.length_drop];omega
  have ho':st.own[id]?=some (some (l.take len++l.drop len)):=by rw[List.take_append_drop];exact ho
  have hv':VR c (.mu id q 0 (l.take len).length ((l.take len).length+(l.drop len).length)) sv:=by rw[←e2,e1];exact hsv
  obtain⟨v',w',c',m,hr,hR,hV⟩:=uo (P:=P) (ty:=ty) r hx hai hxv hsrc hne hv' ho' (by rw[e1];exact h2) (by rw[e1];exact h3)
  rw[e1] at hV
  exact⟨v',_,w',c',_,hr,hR,hV,hk m⟩
 ·exact hk.elim
theorem Rel.WB{w':World}(r:Rel w0 im0 c st a w){t:Nat}{T:Tok}{b:Nat}(hT:c.tk[t]?=some T)(hb:T.aZ=some b){cs:Array Value}{ty:TypeId}{lo hi:Nat}{fr:Nat×Nat}(h1:w.heap[b]?=some (.cells cs ty fr))
 (h2:w'.heap[b]?=some (.cells cs ty (lo,hi))) (hf:lo=hi∨T.k=1∧cs.size≤lo) (hother:∀k,k≠b→w'.heap[k]?=w.heap[k]?) (hsz:w.heap.size≤w'.heap.size) (hos:w'.os=w.os) (htp:w'.tape=w.tape) (hout:w'.output=w.output) (hdr:w.drawn≤w'.drawn):
 Rel w0 im0 c st a w':=by
 have hto:=r.tok t T b hT hb
 have hcell:∀(k o:Nat) (x:Value),w.cell? ⟨k,o,none⟩=some x→w'.cell? ⟨k,o,none⟩=some x:=fun k o x h=>by
  by_cases hk:k=b
  ·subst hk
   simp only[World.cell?,h1] at h
   simp only[World.cell?,h2]
   exact h
  ·rw[cell_of_block (hother k hk)];exact h
 refine⟨r.defers,r.size,r.tmps,r.below.trans ⟨⟨hos,htp,hout,hsz,fun k hk=>hother k (by have:=hto.new;omega)⟩,fun _=>hdr⟩,r.dc,r.dq,fun b o x h=>hcell b o x (r.cr b o x h),r.bU,?_,r.cM,r.tail,?_,r.apart,r.dy,r.up,r.hole⟩
 ·intro i g k es e1 e2
  have ho:=r.own i g k es e1 e2
  have hne:g≠b:=r.apart.ot i t g k es T b e1 e2 hT hb
  exact ho.mono (.refl _) ho.im (hother g hne)
 ·intro u U d e1 e2
  have ho:=r.tok u U d e1 e2
  by_cases hd:d=b
  ·subst hd
   have hUT:U.k=T.k:=by
    by_cases hut:u=t
    ·subst hut;rw[e1] at hT;cases hT;rfl
    ·exact absurd rfl (r.apart.tt u t U T _ _ e1 hT e2 hb hut)
   refine⟨ho.new,ho.room,ho.im,cs,ty,lo,hi,h2,by rw[hUT];exact hf,?_⟩
   obtain⟨cs',ty',lo',hi',h3,_,h5⟩:=ho.aZ
   rw[h1] at h3
   simp only[Option.some.injEq,Obj.cells.injEq] at h3
   rw[h3.1];exact h5
  ·obtain⟨cs',ty',lo',hi',h3,h4⟩:=ho.aZ
   exact⟨ho.new,ho.room,ho.im,cs',ty',lo',hi',by rw[hother d hd];exact h3,h4⟩
theorem Pz(w:World)(b o:Nat)(cs:Array Value)(ty:TypeId)(lo hi:Nat)(h:w.heap[b]?=some (.cells cs ty (lo,hi))):
 (w.freeze ⟨b,o,none⟩ 1).heap[b]?=some (.cells cs ty (if lo==hi then(o,o+1) else(min lo o,max hi (o+1)))):=by
 unfold World.freeze
 rw[if_neg aj]
 simp only[Array.getElem?_modify,if_true,h,Option.map_some]
theorem PA(w:World)(b o k:Nat)(h:k≠b):(w.freeze ⟨b,o,none⟩ 1).heap[k]?=w.heap[k]?:=by
 unfold World.freeze
 rw[if_neg aj]
 simp only[Array.getElem?_modify]
 rw[if_neg (fun e=>h e.symm)]
theorem PB(w:World)(a:Addr)(n:Nat):(w.freeze a n).heap.size=w.heap.size:=by
 unfold World.freeze
 split<;>simp
theorem Xy(w:World)(t e:TypeId)(b:Nat)(C:Array Value)(ty:TypeId)(fr:Nat×Nat)(n c:Nat)(ht:P.underlying t=some (.slice e))(he:P.underlying e=some (.int .u8))(h:w.heap[b]?=some (.cells C ty fr)):
 (convert t t (.slice (some ⟨b,0,none⟩) n c)).run P w= .ok (.slice (some ⟨b,0,none⟩) n c) (w.freeze ⟨b,C.size,none⟩ 1):=by
 have hsh:w.shape? b=some (ty,C.size):=by
  unfold World.shape?
  rw[h]
 simp[convert,run_underlying ht,run_underlying he,markStringish,hsh]
def rJ(P:Program)(s d:TypeId)(x:AV)(st:St)(K:St→AV→Prop):Prop:=
 (∃e,P.underlying d=some (.slice e)∧P.underlying e=some (.int .u8))∧
 match x with
 |.v (.string z)=>P.underlying s=some .string∧K { st with tk:=st.tk++[z.data.toList.length] } (.sl (some st.tk.length) 1 (z.data.toList.map u8))
 |.sl (some t) k es=>s=d∧k=1∧es≠[]∧st.tk[t]?=some es.length∧K st (.sl (some t) k es)
 |_=>False
theorem F1(r:Rel w0 im0 c st a w){s d:TypeId}{x:AV}{v:Value}(h:VR c x v){K:St→AV→Prop}(hk:rJ P s d x st K):
 ∃u y w' c' st',(convert s d v).run P w= .ok u w'∧Rel w0 im0 c' st' a w'∧VR c' y u∧K st' y:=by
 obtain⟨⟨e,hd,he⟩,hk⟩:=hk
 split at hk
 case h_2=>
  rename_i t k es
  obtain⟨rfl,hk1,hne,htk,hk⟩:=hk
  cases h with
  |base h=>cases h
  |tok hT h0 hTk hle hcur=>
   rename_i T
   have htail:=r.tail t T hT
   rw[htk] at htail
   simp only[Option.some.injEq] at htail
   rcases hcur htail with⟨hn0,hv⟩|⟨b,hTb,hv⟩
   ·exact absurd (List.eq_nil_of_length_eq_zero hn0) hne
   ·subst hv
    have hto:=r.tok t T b hT hTb
    obtain⟨cs,ty',lo,hi',hblk,hfro,hsz⟩:=hto.aZ
    have hrun:=Xy (P:=P) w s e b cs ty' (lo,hi') es.length T.cap hd he hblk
    have hheap:=Pz w b cs.size cs ty' lo hi' hblk
    refine⟨_,.sl (some t) k es,_,c,st,hrun,?_,.tok hT h0 hTk hle hcur,hk⟩
    have hfr:∃lo2 hi2,(w.freeze ⟨b,cs.size,none⟩ 1).heap[b]?=some (.cells cs ty' (lo2,hi2))∧(lo2=hi2∨T.k=1∧cs.size≤lo2):=by
     by_cases hlh:lo=hi'
     ·rw[if_pos (by simpa using hlh)] at hheap
      exact⟨_,_,hheap,.inr ⟨hTk.trans hk1,Nat.le_refl _⟩⟩
     ·rw[if_neg (by simpa using hlh)] at hheap
      refine⟨_,_,hheap,.inr ⟨hTk.trans hk1,?_⟩⟩
      have h1:cs.size≤lo:=by omega
      rw[Nat.min_eq_right h1]
      exact Nat.le_refl _
    obtain⟨lo2,hi2,hh2,hf2⟩:=hfr
    have hother:∀k,k≠b→(w.freeze ⟨b,cs.size,none⟩ 1).heap[k]?=w.heap[k]?:=fun k hk=>PA w b cs.size k hk
    have hsame:(w.freeze ⟨b,cs.size,none⟩ 1).os=w.os∧(w.freeze ⟨b,cs.size,none⟩ 1).tape=w.tape∧(w.freeze ⟨b,cs.size,none⟩ 1).output=w.output:=by
     unfold World.freeze
     rw[if_neg aj]
     exact⟨rfl,rfl,rfl⟩
    exact r.WB hT hTb hblk hh2 hf2 hother (Nat.le_of_eq (PB _ _ _).symm) hsame.1 hsame.2.1 hsame.2.2 (by unfold World.freeze;split<;>exact Nat.le_refl _)
 case h_3=>exact hk.elim
 obtain⟨hs,hk⟩:=hk
 rename_i z
 cases h.bd
 let C:=grownCap w z.size 0 e
 have hC:z.size≤C:=grownCap_ge w z.size 0 e
 let aZ:Array Value:=z.data.map (fun b=>Value.int .u8 (b.toNat:Int))++Array.replicate (C-z.size) (.int .u8 0)
 have hbsz:aZ.size=C:=by
  simp only[aZ,Array.size_append,Array.size_map,Array.size_replicate]
  have:z.data.size=z.size:=rfl
  omega
 let w':=w.drew.alloc (.cells aZ e (C,C+1))
 have hblk:w'.heap[w.heap.size]?=some (.cells aZ e (C,C+1)):=jw w.drew _
 have hrun:(convert s d (.string z)).run P w= .ok (.slice (some ⟨w.heap.size,0,none⟩) z.size C) w':=by
  have:=run_bytes_of_string w s d e z hs hd he
  have hb:bytesRow z (grownCap w z.size 0 e)=aZ:=rfl
  rw[hb,hbsz] at this
  exact this
 have hzl:z.data.toList.length=z.size:=rfl
 obtain⟨c',h1,h2,h3⟩:=r.qU (w':=w') (o5 w _) (g:=w.heap.size) (k:=1) (cap:=C) (es:=z.data.toList.map u8) (Nat.le_refl _) hblk
  (.inr ⟨rfl,by omega⟩) ab (by simp;exact hC) ⟨fun i y hy=>by
    rw[List.getElem?_map] at hy
    cases hb:z.data.toList[i]? with
    |none=>simp[hb] at hy
    |some b=>simp only[hb,Option.map_some,Option.some.injEq] at hy;subst hy;rfl,fun i y j q hy hq=>by
    rw[List.getElem?_map] at hy
    cases hb:z.data.toList[i]? with
    |none=>simp[hb] at hy
    |some b=>
     simp only[hb,Option.map_some,Option.some.injEq] at hy;subst hy
     cases j with
     |succ j=>simp[u8,AV.leaves] at hq
     |zero=>
      simp only[u8,AV.leaves,List.getElem?_cons_zero,Option.some.injEq] at hq;subst hq
      refine⟨.int .u8 (b.toNat:Int),?_,.v _,rfl⟩
      simp only[aZ,Array.toList_append,Array.toList_map,Nat.mul_one,Nat.add_zero]
      rw[List.getElem?_append_left (by simp;have:=bO hb;simpa using this)]
      simp only[List.getElem?_map,hb,Option.map_some]⟩
 simp only[List.length_map] at h2 h3
 exact⟨_,_,_,c',_,hrun,h2,h3,hk⟩
end
end Go.az
namespace Go.az
open Go Go.RowKit
def jl(im:Im)(xs:List AV)(vs:List Value):Prop:=vs.length=xs.length∧∀(i:Nat) (x:AV) (v:Value),xs[i]?=some x→vs[i]?=some v→aS im x v
structure Env where
 P:Program
 ok:World→Prop
 mono:∀w w',Go.RowKit.Below w.heap.size w w'→ok w→ok w'
 dr:Prop:=False
 gl:Nat→Option (List AV)
def lA(E:Env)(im:Im):Prop:=∀(g:Nat) (cs:List AV),E.gl g=some cs→aS im (.bR cs) (.pointer (some ⟨g,0,none⟩))
theorem lA.mono{E:Env}{a b:Im}(h:lA E a)(k:a.le b):lA E b:=fun g cs e=>(h g cs e).mono k
theorem xX{E:Env}{D:Prop}{w0 w:World}(h:Below D w0.heap.size w0 w)(k:E.ok w0):E.ok w:=E.mono w0 w h.toBelow k
def jj(E:Env)(B:cX):Prop:=lA E B.im∧(B.dr→E.dr)
def ai(E:Env)(f:FuncId)(args:List AV)(R:AV→List Nat→Prop):Prop:=
 ∀(w:World) (im:Im) (vs:List Value),E.ok w→lA E im→(∀(b o:Nat) (x:Value),im b o=some x→w.cell? ⟨b,o,none⟩=some x)→jl im args vs→
  Calls E.P f vs.toArray w fun e w'=>∃v r tks im',e= .returned v∧Below E.dr w.heap.size w w'∧im.le im'∧(∀(b o:Nat),b<w.heap.size→im' b o=im b o)∧
   (∀(b o:Nat) (x:Value),im' b o=some x→w'.cell? ⟨b,o,none⟩=some x)∧kr im' w.heap.size w' tks∧VR ⟨[],tks,im'⟩ r v∧R r (tks.map (·.tail))
theorem ai.mono{E:Env}{f:FuncId}{args:List AV}{R S:AV→List Nat→Prop}(h:ai E f args R)(hs:∀r t,R r t→S r t):ai E f args S:=
 fun w im vs h0 hg h1 h2=>(h w im vs h0 hg h1 h2).mono fun _ _ ⟨v,r,tks,im',a,b,d,e,f,g,i,j⟩=>⟨v,r,tks,im',a,b,d,e,f,g,i,hs _ _ j⟩
def AV.oI(n:Nat):AV→AV
 |.sl (some t) k es=> .sl (some (t+n)) k es
 |.sl none k es=> .sl none k es
 |.v x=> .v x
 |.aw=> .aw
 |.bR cs=> .bR cs
 |.fn f []=> .fn f []
 |_=> .any
def AV.oJ(n:Nat):AV→AV
 |.agg cs=> .agg (cs.map (AV.oI n))
 |x=>x.oI n
def AV.shift(n:Nat):AV→AV
 |.ax cs=> .ax (cs.map (AV.oJ n))
 |x=>x.oJ n
section
variable{E:Env}{w0:World}{im0:cX}{c:Ctx}{st:St}{a:Act}{w:World}
theorem VR.oI{tks:List Tok}{im:Im}{x:AV}{v:Value}(h:VR ⟨[],tks,im⟩ x v)(β:List (Option (Nat×Nat)))(tk:List Tok):VR ⟨β,tk++tks,im⟩ (x.oI tk.length) v:=by
 cases x with
 |any=>exact .base (.any _)
 |v x=>cases h.bd;exact .base (.v _)
 |agg cs=>exact .base (.any _)
 |ax cs=>exact .base (.any _)
 |aw=>cases h.eA;exact .base .aw
 |sl t k es=>
  cases t with
  |none=>exact .base h.fy
  |some t=>
   cases h with
   |base h=>cases h
   |tok hT h0 hk hle hcur=>exact .tok (by rw[List.getElem?_append_right ab];simpa using hT) h0 hk hle hcur
 |mu=>exact .base (.any _)
 |ptr=>exact .base (.any _)
 |bR cs=>obtain⟨b,o,rfl,h0⟩:=h.oE;exact .base h0
 |fn f cs=>
  cases cs with
  |nil=>
   obtain⟨vs,rfl,hn,_⟩:=h.iz
   have:vs=[]:=List.eq_nil_of_length_eq_zero (by simpa using hn)
   subst this
   exact .base (.fn f [] [] rfl aB)
  |cons=>exact .base (.any _)
theorem VR.oJ{tks:List Tok}{im:Im}{x:AV}{v:Value}(h:VR ⟨[],tks,im⟩ x v)(β:List (Option (Nat×Nat)))(tk:List Tok):VR ⟨β,tk++tks,im⟩ (x.oJ tk.length) v:=by
 cases x with
 |agg cs=>
  obtain⟨vs,rfl,hn,hp⟩:=h.jx
  refine .agg _ vs (by simp[hn]) (fun i y u h1 h2=>?_)
  rw[List.getElem?_map] at h1
  cases hc:cs[i]? with
  |none=>simp[hc] at h1
  |some z=>simp only[hc,Option.map_some,Option.some.injEq] at h1;subst h1;exact(hp i z u hc h2).oI β tk
 |_=>exact h.oI β tk
theorem VR.shift{tks:List Tok}{im:Im}{x:AV}{v:Value}(h:VR ⟨[],tks,im⟩ x v)(β:List (Option (Nat×Nat)))(tk:List Tok):VR ⟨β,tk++tks,im⟩ (x.shift tk.length) v:=by
 cases x with
 |ax cs=>
  obtain⟨vs,rfl,hn,hp⟩:=h.nV
  refine .ax _ vs (by simp[hn]) (fun i y u h1 h2=>?_)
  rw[List.getElem?_map] at h1
  cases hc:cs[i]? with
  |none=>simp[hc] at h1
  |some z=>simp only[hc,Option.map_some,Option.some.injEq] at h1;subst h1;exact(hp i z u hc h2).oJ β tk
 |_=>exact h.oJ β tk
def ar(P:Program)(f:FuncId):Bool:=
 match P.funcs[f]? with
 |some fn=>!(fn.name== "runtime.NumGoroutine")&&fn.body.isSome
 |none=>false
def mo:List AV→Option (List AV)
 |[]=>some []
 |x::xs=>match x.clean,mo xs with
  |some y,some ys=>some (y::ys)
  |_,_=>none
theorem yi:∀{xs ys:List AV} {vs:List Value},Pw c xs vs→mo xs=some ys→jl c.im ys vs
 |[],ys,vs,h,hc=>by
  simp only[mo,Option.some.injEq] at hc;subst hc
  exact⟨h.1,by simp⟩
 |x::xs,ys,vs,h,hc=>by
  simp only[mo] at hc
  split at hc
  ·rename_i y ys' h1 h2
   simp only[Option.some.injEq] at hc;subst hc
   cases vs with
   |nil=>simp[Pw] at h
   |cons v vs=>
    have ih:=yi (vs:=vs) ⟨by simpa using h.1,fun i x u e1 e2=>h.2 (i+1) x u e1 e2⟩ h2
    refine⟨by simp[ih.1],fun i y' v' e1 e2=>?_⟩
    cases i with
    |zero=>simp only[List.getElem?_cons_zero,Option.some.injEq] at e1 e2;subst e1;subst e2;exact(sk (h.2 0 x v rfl rfl) h1).1
    |succ i=>exact ih.2 i y' v' (by simpa using e1) (by simpa using e2)
  ·simp at hc
inductive iv{α β:Type}(R:α→β→Prop):List α→List β→Prop
 |nil:iv R [] []
 |cons {x:α} {y:β} {xs:List α} {ys:List β}:R x y→iv R xs ys→iv R (x::xs) (y::ys)
theorem iv.at{α β:Type}{R:α→β→Prop}{xs:List α}{ys:List β}(h:iv R xs ys):xs.length=ys.length∧∀(i:Nat) (x:α) (y:β),xs[i]?=some x→ys[i]?=some y→R x y:=by
 induction h with
 |nil=>exact⟨rfl,by simp⟩
 |cons h _ ih=>
  refine⟨by simp[ih.1],fun i x y h1 h2=>?_⟩
  cases i with
  |zero=>simp only[List.getElem?_cons_zero,Option.some.injEq] at h1 h2;subst h1;subst h2;exact h
  |succ i=>exact ih.2 i x y (by simpa using h1) (by simpa using h2)
inductive gO(own:List (Option (List AV))):AV→AV→Prop
 |clean {x y:AV}:x.clean=some y→gO own x y
 |mu {id k n cap:Nat} {es:List AV}:own[id]?=some (some es)→n≤es.length→(∀e∈es.take n,∀x∈e.leaves,x.dR=some x)→gO own (.mu id k 0 n cap) (.sl none k (es.take n))
 |ptr {id:Nat} {e:AV}:own[id]?=some (some [e])→(∀x∈e.leaves,x.dR=some x)→gO own (.ptr id 0 0) (.bR e.leaves)
inductive iM(own:List (Option (List AV))):AV→AV→Prop
 |one {x y:AV}:gO own x y→iM own x y
 |fn {f:FuncId} {cs ds:List AV}:iv (gO own) cs ds→iM own (.fn f cs) (.fn f ds)
 |agg {cs ds:List AV}:iv (gO own) cs ds→iM own (.agg cs) (.agg ds)
def World.all(w:World):Im:=fun b o=>w.cell? ⟨b,o,none⟩
theorem Rel.all(r:Rel w0 im0 c st a w):c.im.le (World.all w):=fun b o x h=>r.cr b o x h
theorem gO.ok(r:Rel w0 im0 c st a w){x y:AV}{v:Value}(h:VR c x v)(hs:gO st.own x y):aS (World.all w) y v:=by
 cases hs with
 |clean hc=>exact((sk h hc).1).mono r.all
 |@mu id k n cap es ho hn hcl=>
  have hlen:(es.take n).length=n:=by rw[List.length_take];omega
  rcases h.cZ with⟨g,hb,hcap,rfl⟩|⟨rfl,rfl,rfl⟩
  ·obtain⟨cs,ty,lo,hi,hblk,_,_,hlv,hcell⟩:=(r.own id g k es hb ho).aZ
   have hsub:∀(i:Nat) (e:AV),(es.take n)[i]?=some e→es[i]?=some e:=fun i e he=>by
    rw[List.getElem?_take] at he
    split at he
    ·exact he
    ·simp at he
   have:=aS.sl (im:=World.all w) k (es.take n) g 0 cap (fun i j=>cs.getD (i*k+j) undef) ab (fun i e he=>hlv i e (hsub i e he)) (fun i e j y he hy=>by
    obtain⟨v,hv,_⟩:=hcell i e j y (hsub i e he) hy
    rw[Nat.zero_add]
    simp[World.all,World.cell?,hblk,hv,Array.getD_eq_getD_getElem?]) (fun i e j y he hy=>by
    obtain⟨v,hv,_,h1⟩:=hcell i e j y (hsub i e he) hy
    simp only[Array.getD_eq_getD_getElem?,hv,Option.getD_some]
    rcases h1 with rfl|h1
    ·have:=hcl e (List.mem_of_getElem? he) _ (List.mem_of_getElem? hy)
     simp[AV.dR] at this
    ·exact h1) (fun i e j y he hy=>by
    obtain⟨v,hv,hvr,h1⟩:=hcell i e j y (hsub i e he) hy
    simp only[Array.getD_eq_getD_getElem?,hv,Option.getD_some]
    exact((qu hvr (hcl e (List.mem_of_getElem? he) y (List.mem_of_getElem? hy))).1).mono r.all)
   rw[hlen] at this
   rw[Nat.zero_mul];exact this
  ·rw[List.take_zero];exact .di k none 0
 |@ptr id e ho hcl=>
  obtain⟨g,k,hb,rfl⟩:=h.gW
  obtain⟨cs,ty,lo,hi,hblk,_,_,hlv,hcell⟩:=(r.own id g k _ hb ho).aZ
  have:=aS.bR (im:=World.all w) e.leaves g 0 (fun j=>cs.getD j undef) (fun j x hj=>by
   obtain⟨v,hv,_⟩:=hcell 0 e j x rfl hj
   rw[Nat.zero_mul,Nat.zero_add] at hv
   rw[Nat.zero_add]
   simp[World.all,World.cell?,hblk,hv,Array.getD_eq_getD_getElem?]) (fun j x hj=>by
   obtain⟨v,hv,_,h1⟩:=hcell 0 e j x rfl hj
   rw[Nat.zero_mul,Nat.zero_add] at hv
   simp only[Array.getD_eq_getD_getElem?,hv,Option.getD_some]
   rcases h1 with rfl|h1
   ·have:=hcl _ (List.mem_of_getElem? hj)
    simp[AV.dR] at this
   ·exact h1) (fun j x hj=>by
   obtain⟨v,hv,hvr,h1⟩:=hcell 0 e j x rfl hj
   rw[Nat.zero_mul,Nat.zero_add] at hv
   simp only[Array.getD_eq_getD_getElem?,hv,Option.getD_some]
   exact((qu hvr (hcl x (List.mem_of_getElem? hj))).1).mono r.all)
  simpa using this
theorem gO.all(r:Rel w0 im0 c st a w){cs ds:List AV}{vs:List Value}(hn:vs.length=cs.length)(h:∀(i:Nat) (x:AV) (u:Value),cs[i]?=some x→vs[i]?=some u→VR c x u)(hs:iv (gO st.own) cs ds):
 vs.length=ds.length∧∀(i:Nat) (x:AV) (u:Value),ds[i]?=some x→vs[i]?=some u→aS (World.all w) x u:=by
 obtain⟨h1,h2⟩:=hs.at
 refine⟨by rw[hn,h1],fun i y u e1 e2=>?_⟩
 have hi:i<cs.length:=by rw[h1];exact bO e1
 exact(h2 i _ y (List.getElem?_eq_getElem hi) e1).ok r (h i _ u (List.getElem?_eq_getElem hi) e2)
theorem iM.ok(r:Rel w0 im0 c st a w){x y:AV}{v:Value}(h:VR c x v)(hs:iM st.own x y):aS (World.all w) y v:=by
 cases hs with
 |one hs=>exact hs.ok r h
 |fn hs=>
  obtain⟨vs,rfl,hn,hp⟩:=h.iz
  obtain⟨h1,h2⟩:=gO.all r hn hp hs
  exact .fn _ _ vs h1 h2
 |agg hs=>
  obtain⟨vs,rfl,hn,hp⟩:=h.jx
  obtain⟨h1,h2⟩:=gO.all r hn hp hs
  exact .agg _ vs h1 h2
theorem iM.args(r:Rel w0 im0 c st a w){xs ys:List AV}{vs:List Value}(h:Pw c xs vs)(hs:iv (iM st.own) xs ys):jl (World.all w) ys vs:=by
 obtain⟨h1,h2⟩:=hs.at
 refine⟨by rw[h.1,h1],fun i y u e1 e2=>?_⟩
 have hi:i<xs.length:=by rw[h1];exact bO e1
 exact(h2 i _ y (List.getElem?_eq_getElem hi) e1).ok r (h.2 i _ u (List.getElem?_eq_getElem hi) e2)
def ly(tks:List Nat)(x:AV):Prop:=
 match x with
 |.any|.v _|.aw|.fn _ []=>True
 |.sl none _ es=>es=[]
 |.sl (some t) _ es=>tks[t]?=some es.length∧∀e∈es,∀y∈e.leaves,∃z,y= .v z
 |_=>False
def lz(tks:List Nat)(x:AV):Prop:=
 match x with
 |.agg cs=>∀y∈cs,ly tks y
 |x=>ly tks x
def kj(tks:List Nat)(x:AV):Prop:=
 match x with
 |.ax cs=>∀y∈cs,lz tks y
 |x=>lz tks x
def iE(im im':Im)(n:Nat):Im:=fun b o=>if b<n then im b o else im' b o
theorem ly.ok{im im':Im}{n:Nat}{w:World}{tks:List Tok}(ht:kr im' n w tks){x:AV}{v:Value}(h:VR ⟨[],tks,im'⟩ x v)(hf:ly (tks.map (·.tail)) x):VR ⟨[],tks,iE im im' n⟩ x v:=by
 unfold ly at hf
 split at hf
 ·exact .base (.any _)
 ·cases h.bd;exact .base (.v _)
 ·cases h.eA;exact .base .aw
 ·obtain⟨vs,rfl,hn,_⟩:=h.iz
  have:vs=[]:=List.eq_nil_of_length_eq_zero (by simpa using hn)
  subst this
  exact .base (.fn _ [] [] rfl aB)
 ·subst hf
  cases h with
  |base h=>cases h with
   |sl k es b o cap cv hc=>exact .base (.di _ _ _)
   |di=>exact .base (.di _ _ _)
 ·rename_i t k es
  cases h with
  |base h=>cases h
  |tok hT h0 hk hle hcur=>
   rename_i T
   obtain⟨hf1,hf2⟩:=hf
   have hT':tks[t]?=some T:=hT
   rw[List.getElem?_map,hT'] at hf1
   simp only[Option.map_some,Option.some.injEq] at hf1
   have hat:=hcur hf1.symm
   refine .tok hT ?_ hk hle (fun _=>hat)
   generalize hs:AV.sl none k es=s at h0
   cases h0 with
   |sl k es' b o cap cv hc hk' hm h1 hv=>
    simp only[AV.sl.injEq,true_and] at hs
    obtain⟨rfl,rfl⟩:=hs
    rcases hat with⟨h0,_⟩|⟨g,hg,he⟩
    ·have:es=[]:=List.eq_nil_of_length_eq_zero h0
     subst this
     exact .di _ _ _
    ·simp only[Value.slice.injEq,Option.some.injEq,Addr.mk.injEq,true_and,and_true] at he
     obtain⟨⟨rfl,rfl⟩,_⟩:=he
     have hnew:=(ht.ok t T _ hT' hg).new
     exact .sl _ es b 0 cap cv hc hk' (fun i e j y he hy=>by
      show iE im im' n b _=_
      unfold iE
      rw[if_neg ab];exact hm i e j y he hy) h1 (fun i e j y he hy=>by
      obtain⟨z,rfl⟩:=hf2 e (List.mem_of_getElem? he) y (List.mem_of_getElem? hy)
      have:=hv i e j _ he hy
      cases this;exact .v _)
   |di=>
    simp only[AV.sl.injEq,true_and] at hs
    obtain⟨rfl,rfl⟩:=hs
    exact .di _ _ _
   |_=>simp at hs
 ·exact hf.elim
theorem lz.ok{im im':Im}{n:Nat}{w:World}{tks:List Tok}(ht:kr im' n w tks){x:AV}{v:Value}(h:VR ⟨[],tks,im'⟩ x v)(hf:lz (tks.map (·.tail)) x):VR ⟨[],tks,iE im im' n⟩ x v:=by
 unfold lz at hf
 split at hf
 ·obtain⟨vs,rfl,hn,hp⟩:=h.jx
  exact .agg _ vs hn (fun i y u h1 h2=>ly.ok ht (hp i y u h1 h2) (hf y (List.mem_of_getElem? h1)))
 ·exact ly.ok ht h hf
theorem kj.ok{im im':Im}{n:Nat}{w:World}{tks:List Tok}(ht:kr im' n w tks){x:AV}{v:Value}(h:VR ⟨[],tks,im'⟩ x v)(hf:kj (tks.map (·.tail)) x):VR ⟨[],tks,iE im im' n⟩ x v:=by
 unfold kj at hf
 split at hf
 ·obtain⟨vs,rfl,hn,hp⟩:=h.nV
  exact .ax _ vs hn (fun i y u h1 h2=>lz.ok ht (hp i y u h1 h2) (hf y (List.mem_of_getElem? h1)))
 ·exact lz.ok ht h hf
def DD(E:Env)(st:St)(g:FuncId)(xs:List AV)(K:St→AV→Prop):Prop:=
 st.bT=none∧∃ys,iv (iM st.own) xs ys∧∃R,ai E g ys R∧
  ((∀r tks,R r tks→kj tks r∧K { st with tk:=st.tk++tks } (r.shift st.tk.length))∨
   (∀r tks,R r tks→∃t k es,r= .sl (some t) k es∧tks[t]?=some es.length∧(∀e∈es,e.leaves.length=k∧∀y∈e.leaves,∃z,y= .v z)∧
     ∀m,K { st with own:=st.own++[some (es++spare k m)] } (.mu st.own.length k 0 es.length (es.length+m))))
def oN(E:Env)(st:St)(f:AV)(args:List AV)(K:St→AV→Prop):Prop:=
 match f with
 |.fn g caps=>ar E.P g=true∧((∃ys,mo (args++caps)=some ys∧∃R,ai E g ys R∧∀r tks,R r tks→K { st with tk:=st.tk++tks } (r.shift st.tk.length))∨DD E st g (args++caps) K)
 |_=>False
def eh(E:Env)(o:Oper)(st:St)(K:St→Prop):Prop:=
 match o.op with
 |.alloc t=>iK E.P t o.dst st fun st' x=>K (st'.put o.dst x)
 |.box _ x=>rH (st.ev x) st fun st' y=>K (st'.put o.dst y)
 |.store t x y=>oQ E.P t (st.ev x) (st.ev y) st fun st'=>K (st'.put o.dst (.v undef))
 |.buildSlice t n ps=>qj E.P t n (fX st ps) st fun st' y=>K (st'.put o.dst y)
 |.convert s d x=>
  match E.P.underlying d with
  |some (.slice _)=>rJ E.P s d (st.ev x) st fun st' y=>K (st'.put o.dst y)
  |_=>cN E.P st o.op fun y=>K (st.put o.dst y)
 |.call c=>
  match c.callee,c.args.toList,c.argTypes.toList with
  |.builtin .append,[x,y],[t,tx]=>qb E.P t tx (st.ev x) (st.ev y) st fun st' z=>K (st'.put o.dst z)
  |.value f,xs,_=>oN E st (st.ev f) (xs.map st.ev) fun st' z=>K (st'.put o.dst z)
  |_,_,_=>cN E.P st o.op fun y=>K (st.put o.dst y)
 |_=>cN E.P st o.op fun y=>K (st.put o.dst y)
def gN(w0:World)(im0:cX)(K:St→Prop)(a:Act)(w:World):Prop:=∃c st,Rel w0 im0 c st a w∧K st
theorem eK{o:Oper}{v:Value}{w':World}{K:Act→World→Prop}{Q:Exit→Act→World→Prop}(h:(execOp a.eval o).run E.P w= .ok (.value v) w')(hk:K (a.put o.dst v) w'):o.wp E.P a w K Q:=by
 unfold Oper.wp;rw[h];exact hk
theorem abF{o:Oper}{w':World}{K:Act→World→Prop}{Q:Exit→Act→World→Prop}(h:(execOp a.eval o).run E.P w= .ok .skip w')(hk:K (a.put o.dst undef) w'):o.wp E.P a w K Q:=by
 unfold Oper.wp;rw[h];exact hk
theorem vH(r:Rel w0 im0 c st a w){o:Oper}{K:St→Prop}{Q:Exit→Act→World→Prop}(hk:cN E.P st o.op fun y=>K (st.put o.dst y)):o.wp E.P a w (gN w0 im0 K) Q:=by
 obtain⟨v,x,h1,h2,h3⟩:=Tb r hk
 exact eK h1 ⟨c,_,r.put o.dst h2,h3⟩
theorem Zn(r:Rel w0 im0 c st a w){w':World}(hbel:Below im0.dr w.heap.size w w'){im':Im}(hok:∀(b o:Nat) (x:Value),im' b o=some x→w'.cell? ⟨b,o,none⟩=some x){tks:List Tok}(htk:kr im' w.heap.size w' tks){t k:Nat}{es:List AV}{v:Value}
 (hv:VR ⟨[],tks,im'⟩ (.sl (some t) k es) v) (hf1:(tks.map (·.tail))[t]?=some es.length) (hf2:∀e∈es,e.leaves.length=k∧∀y∈e.leaves,∃z,y= .v z):
 ∃c' m,Rel w0 im0 c' { st with own:=st.own++[some (es++spare k m)] } a w'∧VR c' (.mu st.own.length k 0 es.length (es.length+m)) v:=by
 cases hv with
 |base h=>cases h
 |tok hT h0 hk hle hcur=>
  rename_i T
  have hT':tks[t]?=some T:=hT
  rw[List.getElem?_map,hT'] at hf1
  simp only[Option.map_some,Option.some.injEq] at hf1
  rcases hcur hf1.symm with⟨hz,rfl⟩|⟨g,hg,rfl⟩
  ·have:es=[]:=List.eq_nil_of_length_eq_zero hz
   subst this
   have r':=r.ext hbel
   refine⟨⟨c.β++[none],c.tk,c.im⟩,0,?_,?_⟩
   ·have hle:c.le ⟨c.β++[none],c.tk,c.im⟩:=⟨fun i p h=>by
     show(c.β++[none])[i]?=some (some p)
     rw[List.getElem?_append_left (bO h)];exact h,fun t T h=>⟨T,h,rfl,.inl rfl⟩,.refl _⟩
    have hβ:∀{i:Nat} {p:Nat×Nat},(c.β++[none])[i]?=some (some p)→i<st.own.length∧c.β[i]?=some (some p):=fun{i p} h=>by
     rcases lP _ _ _ _ h with⟨hl,h⟩|⟨_,h⟩
     ·exact⟨by rw[←r.bU];exact hl,h⟩
     ·simp at h
    have ho:∀{i:Nat} {e:List AV},i<st.own.length→(st.own++[some ([]++spare k 0)])[i]?=some (some e)→st.own[i]?=some (some e):=fun{i e} hi h=>by
     rw[List.getElem?_append_left hi] at h;exact h
    exact⟨r'.defers,r'.size,fun i x v e1 e2=>(r'.tmps i x v e1 e2).mono hle,r'.below,r'.dc,r'.dq,r'.cr,by simp[r.bU],fun i g' k' es' e1 e2=>by
     obtain⟨hi,e1⟩:=hβ e1
     have:=r'.own i g' k' es' e1 (ho hi e2)
     exact this.mono hle this.im rfl,r'.cM,r'.tail,r'.tok,
     ⟨fun i j g1 k1 g2 k2 e1 e2 a1 a2 a3 a4 hij=>by
       obtain⟨hi,a1⟩:=hβ a1
       obtain⟨hj,a2⟩:=hβ a2
       exact r.apart.oo i j g1 k1 g2 k2 e1 e2 a1 a2 (ho hi a3) (ho hj a4) hij,fun i t g1 k1 e1 T b a1 a2 a3 a4=>by
       obtain⟨hi,a1⟩:=hβ a1
       exact r.apart.ot i t g1 k1 e1 T b a1 (ho hi a2) a3 a4,r.apart.tt⟩,r'.dy,⟨r'.up.1,fun i x v e1 e2=>(r'.up.2 i x v e1 e2).mono hle⟩,fun l d i e1 e2=>by
       have:=r.hole l d i e1 e2
       show(c.β++[none])[i]?=some none
       rw[List.getElem?_append_left (bO this)];exact this⟩
   ·exact .jX
  ·have hto:=htk.ok t T g hT' hg
   obtain⟨cs,ty,lo,hi',hblk,hfr,hcap⟩:=hto.aZ
   subst hk
   have hroom:=hto.room
   have hcells:cD c T.k es (cs.toList.take (es.length*T.k)):=by
    refine⟨fun i e he=>(hf2 e (List.mem_of_getElem? he)).1,fun i e j x he hx=>?_⟩
    have hkl:=(hf2 e (List.mem_of_getElem? he)).1
    have hlt:i*T.k+j<es.length*T.k:=lQ (bO he) (by rw[←hkl];exact bO hx)
    obtain⟨a',cap',hVe',_,hes'⟩:=h0.fu
    rcases hes' with hes'|⟨b,o,ha',hkk,cv,hm,h1,hvr⟩
    ·subst hes';simp at he
    ·simp only[Value.slice.injEq] at hVe'
     obtain⟨hae,_,_⟩:=hVe'
     rw[ha'] at hae
     simp only[Option.some.injEq,Addr.mk.injEq] at hae
     obtain⟨rfl,rfl,_⟩:=hae
     have h3:=hok _ _ _ (hm i e j x he hx)
     have h4:=hvr i e j x he hx
     have h5:=h1 i e j x he hx
     obtain⟨z,rfl⟩:=(hf2 e (List.mem_of_getElem? he)).2 x (List.mem_of_getElem? hx)
     refine⟨cv i j,?_,?_,.inr h5⟩
     ·rw[List.getElem?_take,if_pos hlt]
      rw[Nat.zero_add] at h3
      simp only[World.cell?,hblk,Option.isSome_none,Bool.false_eq_true,if_false] at h3
      simpa using h3
     ·cases h4;exact .base (.v _)
   have hsz:es.length*T.k≤cs.toList.length:=by
    have:=Nat.mul_le_mul_right T.k hroom
    have hq:cs.toList.length=cs.size:=Array.length_toList
    rw[hf1] at this;omega
   have hall:cD c T.k (es++spare T.k (T.cap-es.length)) cs.toList:=by
    have:=hcells.append (by rw[List.length_take];omega) (cD.spare (c:=c) (k:=T.k) (m:=T.cap-es.length) (cs:=cs.toList.drop (es.length*T.k)) (by
     have hq:cs.toList.length=cs.size:=Array.length_toList
     rw[List.length_drop,Nat.sub_mul];omega))
    rw[List.take_append_drop] at this
    exact this
   refine⟨_,T.cap-es.length,(r.oW (k:=T.k) (g:=g) (es:=es++spare T.k (T.cap-es.length)) hbel hto.new ⟨cs,ty,lo,hi',hblk,hfr,?_,hall.1,fun i e j x he hx=>?_⟩).2,?_⟩
   ·rw[List.length_append,da,show es.length+(T.cap-es.length)=T.cap by omega];exact hcap
   ·obtain⟨u,h1,h2⟩:=hall.2 i e j x he hx
    exact⟨u,by simpa using h1,h2⟩
   ·have:=VR.mu (c:={ c with β:=c.β++[some (g,T.k)] }) (id:=st.own.length) (off:=0) (len:=es.length) (g:=g) (k:=T.k) (cap:=T.cap) (by show(c.β++[_])[_]?=_;rw[←r.bU];simp) ab
    rw[Nat.zero_mul] at this
    rw[show es.length+(T.cap-es.length)=T.cap by omega]
    exact this
theorem F5(h0:E.ok w0)(hG:jj E im0)(r:Rel w0 im0 c st a w){dst:Option Tmp}{f:Operand}{args:Array Operand}{tys:Array TypeId}{ty:TypeId}{pos:String}{after:Array Edge}{guard:Option (Nat×Bool)}{K:St→AV→Prop}{K':St→Prop}{Q:Exit→Act→World→Prop}
 (hk:oN E st (st.ev f) (args.toList.map st.ev) K) (hK:∀st y,K st y→K' (st.put dst y)):Oper.wp E.P ⟨dst,.call ⟨.value f,args,tys⟩,ty,pos,after,guard⟩ a w (gN w0 im0 K') Q:=by
 unfold oN at hk
 split at hk
 case h_2=>exact hk.elim
 rename_i g caps hf
 obtain⟨hcl,hk⟩:=hk
 have hv:=r.ev f
 rw[hf] at hv
 obtain⟨us,he,hn,hp⟩:=hv.iz
 have hargs:Pw c (args.toList.map st.ev++caps) (args.toList.map a.eval++us):=by
  refine⟨by simp[hn],fun i x v h1 h2=>?_⟩
  rcases fY _ _ _ _ h1 with⟨l1,h1⟩|⟨l1,h1⟩
  ·rw[List.getElem?_append_left (by simpa using l1)] at h2
   rw[List.getElem?_map] at h1 h2
   cases hc:args.toList[i]? with
   |none=>simp[hc] at h1
   |some z=>simp only[hc,Option.map_some,Option.some.injEq] at h1 h2;subst h1;subst h2;exact r.ev z
  ·rw[List.getElem?_append_right (by simpa using l1)] at h2
   have:(args.toList.map a.eval).length=(args.toList.map st.ev).length:=by simp
   rw[this] at h2
   exact hp _ _ _ h1 h2
 have hrun:(execOp a.eval ⟨dst,.call ⟨.value f,args,tys⟩,ty,pos,after,guard⟩).run E.P w= .ok (.enter g (args.toList.map a.eval++us).toArray) w:=by
  unfold ar at hcl
  cases hfn:E.P.funcs[g]? with
  |none=>simp[hfn] at hcl
  |some fn=>
   simp only[hfn,Bool.and_eq_true,Bool.not_eq_true'] at hcl
   obtain⟨hn1,hn2⟩:=hcl
   have hb:fn.body.isNone=false:=by cases hbb:fn.body<;>simp_all
   have harr:Array.map a.eval args++us.toArray=(args.toList.map a.eval++us).toArray:=by
    apply Array.ext'
    simp
   have he':a.eval f= .func (.func g) #[] us.toArray:=he
   simp only[execOp,resolve,he',Deferred.ofValue,Sem.run_bind,Sem.run_pure,Result.andThen_ok,invoke,callFunc,run_program,hfn,hn1,Bool.false_eq_true,if_false,hb,Array.empty_append,harr]
 unfold Oper.wp
 rw[hrun]
 simp only[Oper.upon]
 rcases hk with⟨ys,hys,R,hR,hk⟩|⟨hrsv,ys,hys,R,hR,hk⟩
 ·refine(hR w c.im _ (xX r.below h0) (hG.1.mono r.dc) r.cr (yi hargs hys)).mono ?_
  rintro e w' ⟨v,rr,tks,im',rfl,hbel,him,hold,hok,htk,hvr,hRR⟩
  have hbel:=hbel.Ds hG.2
  obtain⟨h1,h2⟩:=r.rW hbel him hok hold htk
  have h3:=hk rr _ hRR
  refine⟨_,_,h2.put dst (hvr.shift c.β c.tk),?_⟩
  rw[r.cM]
  exact hK _ _ h3
 ·refine(hR w (World.all w) _ (xX r.below h0) ((hG.1.mono r.dc).mono r.all) (fun _ _ _ h=>h) (iM.args r hargs hys)).mono ?_
  rintro e w' ⟨v,rr,tks,im',rfl,hbel,him,hold,hok,htk,hvr,hRR⟩
  have hbel:=hbel.Ds hG.2
  have hin:∀(b o:Nat) (x:Value),c.im b o=some x→b<w.heap.size:=fun b o x h=>r.mM h
  have hle:c.im.le (iE c.im im' w.heap.size):=fun b o x h=>by unfold iE;rw[if_pos (hin b o x h)];exact h
  have hok':∀(b o:Nat) (x:Value),iE c.im im' w.heap.size b o=some x→w'.cell? ⟨b,o,none⟩=some x:=fun b o x h=>by
   unfold iE at h
   split at h
   ·exact hok b o x (him b o x (r.cr b o x h))
   ·exact hok b o x h
  have hold':∀(b o:Nat),b<w.heap.size→iE c.im im' w.heap.size b o=c.im b o:=fun b o h=>by unfold iE;rw[if_pos h]
  have htk':kr (iE c.im im' w.heap.size) w.heap.size w' tks:=⟨fun i T b h1 h2=>by
   have:=htk.ok i T b h1 h2
   exact⟨this.new,this.room,fun o ho=>by show iE c.im im' _ b o=none;unfold iE;rw[if_neg (by have:=this.new;omega)];exact this.im o ho,this.aZ⟩,htk.ap⟩
  rcases hk with hk|hk
  ·obtain⟨hf,h3⟩:=hk rr _ hRR
   obtain⟨h1,h2⟩:=r.rW hbel hle hok' hold' htk'
   refine⟨_,_,h2.put dst ((kj.ok htk hvr hf).shift c.β c.tk),?_⟩
   rw[r.cM]
   exact hK _ _ h3
  ·obtain⟨t,k,es,rfl,hf1,hf2,h3⟩:=hk rr _ hRR
   obtain⟨c',m,hR',hV⟩:=Zn r hbel hok htk hvr hf1 hf2
   exact⟨_,_,hR'.put dst hV,hK _ _ (h3 m)⟩
theorem uk(h0:E.ok w0)(hG:jj E im0)(r:Rel w0 im0 c st a w){o:Oper}{K:St→Prop}{Q:Exit→Act→World→Prop}(hk:eh E o st K):o.wp E.P a w (gN w0 im0 K) Q:=by
 have val:∀{s:Sem Value} {K':St→AV→Prop},(∃u y w' c' st',s.run E.P w= .ok u w'∧Rel w0 im0 c' st' a w'∧VR c' y u∧K' st' y)→(execOp a.eval o=do pure (.value (←s)))→
  (∀st' y,K' st' y→K (st'.put o.dst y))→o.wp E.P a w (gN w0 im0 K) Q:=by
  rintro s K' ⟨u,y,w',c',st',h1,h2,h3,h4⟩ he hK
  exact eK (by rw[he];simp[h1]) ⟨c',_,h2.put o.dst h3,hK _ _ h4⟩
 obtain⟨dst,op,type,pos,after,guard⟩:=o
 unfold eh at hk
 cases op<;>simp only at hk
 case alloc t=>exact val (DO r hk) rfl (fun _ _ h=>h)
 case box t x=>exact val (FB r (r.ev x) hk) rfl (fun _ _ h=>h)
 case store t x y=>
  obtain⟨w',st',h1,h2,h3⟩:=CK r (r.ev x) (r.ev y) hk
  refine abF (w':=w') ?_ ⟨c,_,h2.put dst (.base (.v undef)),h3⟩
  simp only[execOp,Sem.run_bind,h1,Result.andThen_ok,Sem.run_pure]
 case buildSlice t n ps=>exact val (TP r hk) rfl (fun _ _ h=>h)
 case convert s d x=>
  split at hk
  ·exact val (F1 r (r.ev x) hk) rfl (fun _ _ h=>h)
  ·exact vH r hk
 case call cl=>
  obtain⟨callee,args,tys⟩:=cl
  simp only at hk
  split at hk
  ·rename_i x y t tx hargs htys
   have ha:args= #[x,y]:=by apply Array.ext';simpa using hargs
   have ht:tys= #[t,tx]:=by apply Array.ext';simpa using htys
   subst ha;subst ht
   obtain⟨v,z,w',c',st',h1,h2,h3,h4⟩:=El (P:=E.P) (ty:=type) r (r.ev x) (r.ev y) hk
   refine eK (w':=w') (v:=v) ?_ ⟨c',_,h2.put dst h3,h4⟩
   simp only[execOp,resolve,Sem.run_bind,Sem.run_pure,Result.andThen_ok,invoke,builtin,List.map_toArray,List.map_cons,List.map_nil,h1]
  ·exact F5 h0 hG r hk (fun _ _ h=>h)
  ·exact vH r hk
 all_goals exact vH r hk
def qK:AV→Option (Option Bool)
 |.v (.bool b)=>some (some b)
 |.v (.tuple _)=>some none
 |_=>none
def eG(ops:Array Oper)(o:Oper)(st:St):Option Bool:=
 match o.guard with
 |none=>some true
 |some (j,want)=>
  match(ops[j]?).bind (·.dst) with
  |none=>some false
  |some d=>
   match qK (st.tmps.getD d .any) with
   |some (some b)=>some (b==want)
   |some none=>some false
   |none=>none
def cJ(E:Env)(ops:Array Oper):List Oper→St→(St→Prop)→Prop
 |[],st,K=>K st
 |o::rest,st,K=>∃q,eG ops o st=some q∧(q=true→eh E o st fun st'=>cJ E ops rest st' K)∧(q=false→cJ E ops rest (st.put o.dst (.v undef)) K)
theorem xh(r:Rel w0 im0 c st a w){ops:Array Oper}{o:Oper}{q:Bool}(h:eG ops o st=some q):Region.wanted o (yielded ops a.tmps)=q:=by
 unfold eG at h
 unfold Region.wanted yielded
 split at h
 ·rename_i hg
  simp only[Option.some.injEq] at h
  simp[hg,h]
 ·rename_i j want hg
  simp only[hg]
  split at h
  ·rename_i hd
   simp only[Option.some.injEq] at h
   simp[hd,←h]
  ·rename_i d hd
   simp only[hd,Option.bind_some]
   by_cases hlt:d<st.tmps.length
   ·have hlt2:d<a.tmps.size:=by rw[r.size];exact hlt
    have hv:=r.tmps d st.tmps[d] a.tmps[d] (by simp[hlt]) (by simp[hlt2])
    have hx:st.tmps.getD d .any=st.tmps[d]:=by simp[List.getD_eq_getElem?_getD,hlt]
    have hy:a.tmps[d]?=some a.tmps[d]:=by simp[hlt2]
    rw[hx] at h
    rw[hy]
    generalize st.tmps[d]=x at *
    generalize a.tmps[d]=v at *
    unfold qK at h
    split at h
    ·rename_i b hx2
     split at hx2
     ·rename_i b2
      simp only[Option.some.injEq] at hx2 h
      subst hx2
      cases hv.bd
      rw[←h]
      cases b2<;>cases want<;>rfl
     ·simp at hx2
     ·simp at hx2
    ·rename_i hx2
     split at hx2
     ·simp at hx2
     ·cases hv.bd
      simp only[Option.some.injEq] at h
      rw[←h]
      cases want<;>rfl
     ·simp at hx2
    ·simp at h
   ·have hx:st.tmps.getD d .any= .any:=by simp[List.getD_eq_getElem?_getD,List.getElem?_eq_none (Nat.le_of_not_lt hlt)]
    rw[hx] at h
    simp[qK] at h
theorem rY(h0:E.ok w0)(hG:jj E im0){ops:Array Oper}{K:St→Prop}{Q:Exit→Act→World→Prop}(hQ:∀a w,gN w0 im0 K a w→Q .normal a w):∀(l:List Oper) {c:Ctx} {st:St} {a:Act} {w:World},Rel w0 im0 c st a w→cJ E ops l st K→wpList E.P ops Q l a w
 |[],c,st,a,w,r,h=>hQ _ _ ⟨c,st,r,h⟩
 |o::rest,c,st,a,w,r,h=>by
  obtain⟨q,hq,h1,h2⟩:=h
  have hw:=xh r hq
  refine wpList_step (fun K' hK'=>?_)
  cases q with
  |true=>
   rw[if_pos hw]
   refine Oper.wp_mono (fun a' w' hh=>?_) (uk (Q:=Q) h0 hG r (h1 rfl))
   obtain⟨c',st',r',h'⟩:=hh
   exact hK' _ _ (rY h0 hG hQ rest r' h')
  |false=>
   rw[if_neg (by rw[hw];exact Bool.false_ne_true)]
   exact hK' _ _ (rY h0 hG hQ rest (r.put o.dst (.base (.v undef))) (h2 rfl))
end
end Go.az
namespace Go.az
open Go Go.RowKit
def aa(E:Env)(c:Code)(Q:Exit→St→Prop)(st:St):Prop:=
 ∀(w0:World) (im0:cX) (cx:Ctx) (a:Act) (w:World),E.ok w0→jj E im0→Rel w0 im0 cx st a w→c.wp E.P (fun e a' w'=>gN w0 im0 (Q e) a' w') a w
def ji(next:St→Prop)(Q:Exit→St→Prop):Exit→St→Prop
 |.normal,st=>next st
 |e,st=>Q e st
def rM(id:Nat)(Q:Exit→St→Prop):Exit→St→Prop
 |.exit i,st=>if i=id then Q .normal st else Q (.exit i) st
 |e,st=>Q e st
section
variable{E:Env}{Q:Exit→St→Prop}{st:St}
theorem aa.mono{c:Code}{Q':Exit→St→Prop}(h:aa E c Q st)(hq:∀e s,Q e s→Q' e s):aa E c Q' st:=
 fun w0 im0 cx a w h0 hG r=>wp_mono (h w0 im0 cx a w h0 hG r) fun _ _ _ ⟨c,s,r,q⟩=>⟨c,s,r,hq _ _ q⟩
theorem aa.seq{x y:Code}(h:aa E x (ji (aa E y Q) Q) st):aa E (.seq x y) Q st:=fun w0 im0 cx a w h0 hG r=>by
 refine wp_seq (wp_mono (h w0 im0 cx a w h0 hG r) fun e a' w' hh=>?_)
 obtain⟨c,s,r',q⟩:=hh
 cases e<;>first|exact q w0 im0 c a' w' h0 hG r'|exact⟨c,s,r',q⟩
theorem aa.ah{x y:Code}(h:∀K:St→Prop,(∀s,aa E y Q s→K s)→aa E x (ji K Q) st):aa E (.seq x y) Q st:=aa.seq (h _ fun _ h=>h)
theorem aa.skip(h:Q .normal st):aa E .skip Q st:=fun _ _ cx _ _ _ _ r=>wp_skip ⟨cx,st,r,h⟩
theorem aa.exit{id:Nat}(h:Q (.exit id) st):aa E (.exit id) Q st:=fun _ _ cx _ _ _ _ r=>wp_exit ⟨cx,st,r,h⟩
theorem aa.ret(h:Q .ret st):aa E .ret Q st:=fun _ _ cx _ _ _ _ r=>wp_ret ⟨cx,st,r,h⟩
theorem aa.cond{x:Operand}{c d:Code}{b:Bool}(hx:st.ev x= .v (.bool b))(h1:b=true→aa E c Q st)(h2:b=false→aa E d Q st):aa E (.cond x c d) Q st:=fun w0 im0 cx a w h0 hG r=>by
 have hv:=r.ev x
 rw[hx] at hv
 exact wp_cond_split hv.bd (fun hb=>h1 hb w0 im0 cx a w h0 hG r) (fun hb=>h2 hb w0 im0 cx a w h0 hG r)
theorem aa.block{id:Nat}{c:Code}(h:aa E c (rM id Q) st):aa E (.block id c) Q st:=fun w0 im0 cx a w h0 hG r=>by
 refine wp_block (wp_mono (h w0 im0 cx a w h0 hG r) fun e a' w' hh=>?_)
 obtain⟨c,s,r',q⟩:=hh
 cases e<;>first|exact⟨c,s,r',q⟩|skip
 case exit i=>
  simp only[rM,Exit.inBlock] at q ⊢
  split
  ·rename_i he;rw[if_pos he] at q;exact⟨c,s,r',q⟩
  ·rename_i he;rw[if_neg he] at q;exact⟨c,s,r',q⟩
theorem aa.region{id:Nat}{l:List Oper}(h:cJ E l.toArray l st (Q .normal)):aa E (.region id l.toArray false) Q st:=fun w0 im0 cx a w h0 hG r=>
 wp_region_lit (rY h0 hG (w0:=w0) (im0:=im0) (K:=Q .normal) (fun a' w' hh=>hh) l r h)
theorem aa.loop{c:Code}(I:Nat→St→Prop)(n:Nat)(hI0:I n st)(round:∀n s,I n s→aa E c (ji (fun s'=>∃n',n'<n∧I n' s') Q) s):aa E (.loop c) Q st:=fun w0 im0 cx a w h0 hG r=>by
 refine wp_loop_ghost (fun n a w=>gN w0 im0 (I n) a w) n ⟨cx,st,r,hI0⟩ ?_
 rintro n a w ⟨c',s,r',hI⟩
 refine wp_mono (round n s hI w0 im0 c' a w h0 hG r') fun e a' w' hh=>?_
 obtain⟨c2,s2,r2,q⟩:=hh
 cases e<;>first|exact⟨c2,s2,r2,q⟩|skip
 case normal=>
  obtain⟨n',hlt,hI'⟩:=q
  exact⟨n',hlt,c2,s2,r2,hI'⟩
end
def AV.ei(no nt:Nat):AV→Bool
 |.any|.v _|.aw|.bR _|.sl none _ _=>true
 |.sl (some t) _ _=>decide (t<nt)
 |.mu i _ _ _ _=>decide (i<no)
 |.ptr i _ _=>decide (i<no)
 |.fn _ []=>true
 |_=>false
def AV.gR(no nt:Nat):AV→Bool
 |.agg cs=>cs.all (AV.ei no nt)
 |.fn _ cs=>cs.all (AV.ei no nt)
 |x=>x.ei no nt
def AV.bw(no nt:Nat):AV→Bool
 |.ax cs=>cs.all (AV.gR no nt)
 |x=>x.gR no nt
theorem VR.xb{c:Ctx}{x:AV}{v:Value}(h:VR c x v){no nt:Nat}(hb:x.ei no nt=true):VR ⟨c.β.take no,c.tk.take nt,c.im⟩ x v:=by
 cases x with
 |any=>exact .base (.any _)
 |v x=>cases h.bd;exact .base (.v _)
 |agg=>simp[AV.ei] at hb
 |ax=>simp[AV.ei] at hb
 |aw=>cases h.eA;exact .base .aw
 |sl t k es=>
  cases t with
  |none=>exact .base h.fy
  |some t=>
   cases h with
   |base h=>cases h
   |tok hT h0 hk hle hcur=>
    simp only[AV.ei,decide_eq_true_eq] at hb
    exact .tok (by rw[List.getElem?_take,if_pos hb];exact hT) h0 hk hle hcur
 |mu i k off len cap=>
  simp only[AV.ei,decide_eq_true_eq] at hb
  rcases h.cZ with⟨g,h1,h2,rfl⟩|⟨rfl,rfl,rfl⟩
  ·exact .mu (by rw[List.getElem?_take,if_pos hb];exact h1) h2
  ·exact .jX
 |ptr i idx off=>
  obtain⟨g,k,h1,rfl⟩:=h.gW
  simp only[AV.ei,decide_eq_true_eq] at hb
  exact .ptr (by rw[List.getElem?_take,if_pos hb];exact h1)
 |bR cs=>obtain⟨b,o,rfl,h0⟩:=h.oE;exact .base h0
 |fn f cs=>
  cases cs with
  |nil=>
   obtain⟨vs,rfl,hn,_⟩:=h.iz
   have:vs=[]:=List.eq_nil_of_length_eq_zero (by simpa using hn)
   subst this
   exact .base (.fn f [] [] rfl aB)
  |cons=>simp[AV.ei] at hb
theorem VR.Da{c:Ctx}{x:AV}{v:Value}(h:VR c x v){no nt:Nat}(hb:x.gR no nt=true):VR ⟨c.β.take no,c.tk.take nt,c.im⟩ x v:=by
 cases x with
 |agg cs=>
  obtain⟨vs,rfl,hn,hp⟩:=h.jx
  simp only[AV.gR,List.all_eq_true] at hb
  exact .agg cs vs hn (fun i y u h1 h2=>(hp i y u h1 h2).xb (hb y (List.mem_of_getElem? h1)))
 |fn f cs=>
  obtain⟨vs,rfl,hn,hp⟩:=h.iz
  simp only[AV.gR,List.all_eq_true] at hb
  exact .fn f cs vs hn (fun i y u h1 h2=>(hp i y u h1 h2).xb (hb y (List.mem_of_getElem? h1)))
 |_=>exact h.xb hb
theorem VR.trim{c:Ctx}{x:AV}{v:Value}(h:VR c x v){no nt:Nat}(hb:x.bw no nt=true):VR ⟨c.β.take no,c.tk.take nt,c.im⟩ x v:=by
 cases x with
 |ax cs=>
  obtain⟨vs,rfl,hn,hp⟩:=h.nV
  simp only[AV.bw,List.all_eq_true] at hb
  exact .ax cs vs hn (fun i y u h1 h2=>(hp i y u h1 h2).Da (hb y (List.mem_of_getElem? h1)))
 |_=>exact h.Da hb
def jP(no nt:Nat):List AV→List AV→Prop
 |[],[]=>True
 |x::xs,y::ys=>(y= .any∨(y=x∧x.bw no nt=true))∧jP no nt xs ys
 |_,_=>False
def gn(no nt:Nat):List (Option (List AV))→List (Option (List AV))→Prop
 |_,[]=>True
 |x::xs,y::ys=>(y=none∨(y=x∧∀es,x=some es→∀e∈es,∀z∈e.leaves,z.bw no nt=true))∧gn no nt xs ys
 |[],_::_=>False
def jm:List Nat→List Nat→Prop
 |_,[]=>True
 |x::xs,y::ys=>y=x∧jm xs ys
 |[],_::_=>False
def St.Wk(s t:St):Prop:=jP t.own.length t.tk.length s.tmps t.tmps∧gn t.own.length t.tk.length s.own t.own∧jm s.tk t.tk∧t.gl=s.gl∧t.bT=none∧t.up=s.up∧s.up.all (AV.bw t.own.length t.tk.length)=true
theorem jP.get{no nt:Nat}:∀{xs ys:List AV},jP no nt xs ys→xs.length=ys.length∧∀(i:Nat) (y:AV),ys[i]?=some y→y= .any∨(xs[i]?=some y∧y.bw no nt=true)
 |[],[],_=>⟨rfl,by simp⟩
 |x::xs,y::ys,h=>by
  obtain⟨h1,h2⟩:=jP.get h.2
  refine⟨by simp[h1],fun i z hz=>?_⟩
  cases i with
  |zero=>
   simp only[List.getElem?_cons_zero,Option.some.injEq] at hz;subst hz
   rcases h.1 with h|⟨rfl,h⟩
   ·exact .inl h
   ·exact .inr ⟨rfl,h⟩
  |succ i=>exact h2 i z (by simpa using hz)
 |[],_::_,h=>h.elim
 |_::_,[],h=>h.elim
theorem gn.get{no nt:Nat}:∀{xs ys:List (Option (List AV))},gn no nt xs ys→ys.length≤xs.length∧∀(i:Nat) (es:List AV),ys[i]?=some (some es)→xs[i]?=some (some es)∧∀e∈es,∀z∈e.leaves,z.bw no nt=true
 |_,[],_=>⟨by simp,by simp⟩
 |x::xs,y::ys,h=>by
  obtain⟨h1,h2⟩:=gn.get h.2
  refine⟨by simp[h1],fun i es he=>?_⟩
  cases i with
  |zero=>
   simp only[List.getElem?_cons_zero,Option.some.injEq] at he;subst he
   rcases h.1 with h|⟨h,hb⟩
   ·simp at h
   ·exact⟨by rw[←h];rfl,hb es h.symm⟩
  |succ i=>exact h2 i es (by simpa using he)
 |[],_::_,h=>h.elim
theorem jm.get:∀{xs ys:List Nat},jm xs ys→ys.length≤xs.length∧xs.take ys.length=ys
 |_,[],_=>⟨by simp,by simp⟩
 |x::xs,y::ys,h=>by
  obtain⟨h1,h2⟩:=jm.get h.2
  exact⟨by simp[h1],by simp[h2,h.1]⟩
 |[],_::_,h=>h.elim
theorem Rel.weaken{w0:World}{im0:cX}{c:Ctx}{s t:St}{a:Act}{w:World}(r:Rel w0 im0 c s a w)(h:s.Wk t):∃d,Rel w0 im0 d t a w:=by
 obtain⟨hT,hO,hK,hgl,hrsv,hup,hbel⟩:=h
 obtain⟨t1,t2⟩:=hT.get
 obtain⟨o1,o2⟩:=hO.get
 obtain⟨k1,k2⟩:=hK.get
 have ht:∀{i:Nat} {T:Tok},(c.tk.take t.tk.length)[i]?=some T→i<t.tk.length∧c.tk[i]?=some T:=fun{i T} hh=>by
  rw[List.getElem?_take] at hh
  split at hh
  ·exact⟨by assumption,hh⟩
  ·simp at hh
 have hb:∀{i:Nat} {p:Option (Nat×Nat)},(c.β.take t.own.length)[i]?=some p→i<t.own.length∧c.β[i]?=some p:=fun{i p} hh=>by
  rw[List.getElem?_take] at hh
  split at hh
  ·exact⟨by assumption,hh⟩
  ·simp at hh
 refine⟨⟨c.β.take t.own.length,c.tk.take t.tk.length,c.im⟩,r.defers,by rw[r.size];exact t1,?_,r.below,r.dc,r.dq,r.cr,?_,?_,?_,?_,?_,?_,fun g cs h=>r.dy g cs (by rw[←hgl];exact h),⟨by rw[hup];exact r.up.1,fun i x v h1 h2=>(r.up.2 i x v (by rw[←hup];exact h1) h2).trim (List.all_eq_true.1 hbel x (List.mem_of_getElem? (by rw[←hup];exact h1)))⟩,fun l d i h=>by rw[hrsv] at h;simp at h⟩
 ·intro i y v h1 h2
  rcases t2 i y h1 with rfl|⟨h3,h4⟩
  ·exact .base (.any _)
  ·exact(r.tmps i y v h3 h2).trim h4
 ·simp only[List.length_take];rw[r.bU];omega
 ·intro i g k es h1 h2
  obtain⟨h3,h4⟩:=o2 i es h2
  have:=r.own i g k es (hb h1).2 h3
  obtain⟨cs,ty,lo,hi,a1,a2,a3,a4,a5⟩:=this.aZ
  exact⟨this.new,this.im,cs,ty,lo,hi,a1,a2,a3,a4,fun i' e j x e1 e2=>let⟨v,v1,v2,v3⟩:=a5 i' e j x e1 e2;⟨v,v1,v2.trim (h4 e (List.mem_of_getElem? e1) x (List.mem_of_getElem? e2)),v3⟩⟩
 ·simp only[List.length_take];rw[r.cM];omega
 ·intro i T hh
  obtain⟨h1,h2⟩:=ht hh
  have:=r.tail i T h2
  rw[←k2,List.getElem?_take,if_pos h1]
  exact this
 ·intro i T b h1 h2
  exact r.tok i T b (ht h1).2 h2
 ·refine⟨?_,?_,?_⟩
  ·intro i j g k g' k' e e' h1 h2 h3 h4 hne
   exact r.apart.oo i j g k g' k' e e' (hb h1).2 (hb h2).2 (o2 i e h3).1 (o2 j e' h4).1 hne
  ·intro i u g k e T b h1 h2 h3 h4
   exact r.apart.ot i u g k e T b (hb h1).2 (o2 i e h2).1 (ht h3).2 h4
  ·intro u v U V b d h1 h2 h3 h4 hne
   exact r.apart.tt u v U V b d (ht h1).2 (ht h2).2 h3 h4 hne
theorem aa.weaken{E:Env}{c:Code}{Q:Exit→St→Prop}{s t:St}(h:s.Wk t)(hw:aa E c Q t):aa E c Q s:=fun w0 im0 cx a w h0 hG r=>
 let⟨d,r'⟩:=r.weaken h
 hw w0 im0 d a w h0 hG r'
theorem aa.Av{E:Env}{Q:Exit→St→Prop}{st:St}{ι:Type}{c:Code}(S:ι→St)(I:ι→Prop)(μ:ι→Nat)(i:ι)(hw0:st.Wk (S i))(hI:I i)
 (round:∀i,I i→aa E c (ji (fun s'=>∃j,s'.Wk (S j)∧I j∧μ j<μ i) Q) (S i)):aa E (.loop c) Q st:=fun w0 im0 cx a w h0 hG r=>by
 obtain⟨d,r'⟩:=r.weaken hw0
 refine wp_loop_ghost (fun n a w=>∃j,I j∧μ j=n∧∃c,Rel w0 im0 c (S j) a w) (μ i) ⟨i,hI,rfl,d,r'⟩ ?_
 rintro n a w ⟨j,hj,rfl,c',r'⟩
 refine wp_mono (round j hj w0 im0 c' a w h0 hG r') fun e a' w' hh=>?_
 obtain⟨c2,s2,r2,q⟩:=hh
 cases e<;>first|exact⟨c2,s2,r2,q⟩|skip
 case normal=>
  obtain⟨j',hwk,hI',hlt⟩:=q
  obtain⟨d,r3⟩:=r2.weaken hwk
  exact⟨μ j',hlt,j',hI',rfl,d,r3⟩
theorem aa.pI{E:Env}{c:Code}{Q:Exit→St→Prop}{s:St}(i:Nat)(k:Nat)(h:s.tmps[i]?=some .aw)(hw:aa E c Q { s with tmps:=s.tmps.set i (.sl (some s.tk.length) k []),tk:=s.tk++[0] }):aa E c Q s:=fun w0 im0 cx a w h0 hG r=>by
 obtain⟨c',hle,r',hv⟩:=r.pI k
 refine hw w0 im0 c' a w h0 hG ?_
 refine⟨r'.defers,by simp[r'.size],fun j x v h1 h2=>?_,r'.below,r'.dc,r'.dq,r'.cr,r'.bU,r'.own,r'.cM,r'.tail,r'.tok,r'.apart,r'.dy,r'.up,r'.hole⟩
 rw[List.getElem?_set] at h1
 split at h1
 ·rename_i hij
  subst hij
  split at h1
  ·simp only[Option.some.injEq] at h1;subst h1
   have:=r.tmps i _ v h h2
   cases this.eA
   exact hv
  ·simp at h1
 ·exact r'.tmps j x v h1 h2
def ko(sel:List (Bool×Nat)):AV→AV→Prop
 |.sl (some t) k es,.sl (some i) k' es'=>sel[i]?=some (true,t)∧k=k'∧es=es'
 |.sl _ k es,.sl none k' es'=>k=k'∧es=es'
 |.aw,.sl none _ []=>True
 |.aw,.sl (some i) k []=>sel[i]?=some (false,k)
 |.aw,.aw=>True
 |.v x,.v y=>x=y
 |.bR cs,.bR ds=>cs=ds
 |_,.any=>True
 |_,_=>False
def rP(sel:List (Bool×Nat)):List AV→List AV→Prop
 |[],[]=>True
 |x::xs,y::ys=>ko sel x y∧rP sel xs ys
 |_,_=>False
def oT(sel:List (Bool×Nat)):AV→AV→Prop
 |.agg xs,.agg ys=>rP sel xs ys
 |x,y=>ko sel x y
def rQ(sel:List (Bool×Nat)):List AV→List AV→Prop
 |[],[]=>True
 |x::xs,y::ys=>oT sel x y∧rQ sel xs ys
 |_,_=>False
def oU(sel:List (Bool×Nat)):AV→AV→Prop
 |.ax xs,.ax ys=>rQ sel xs ys
 |x,y=>oT sel x y
def fJ(n:Nat):List (Bool×Nat)→Bool
 |[]=>true
 |(true,t)::l=>decide (t<n)&&!(l.contains (true,t))&&fJ n l
 |(false,_)::l=>fJ n l
def fK(c:Ctx):List (Bool×Nat)→List Tok
 |[]=>[]
 |(true,t)::l=>c.tk.getD t ⟨none,0,0,0⟩::fK c l
 |(false,k)::l=>⟨none,0,0,k⟩::fK c l
def ja(tk:List Nat):List (Bool×Nat)→List Nat
 |[]=>[]
 |(true,t)::l=>tk.getD t 0::ja tk l
 |(false,_)::l=>0::ja tk l
section
variable{P:Program}{w0:World}{im0:cX}{c:Ctx}{st:St}{a:Act}{w:World}
theorem rp:∀{sel:List (Bool×Nat)} {i:Nat},(fK c sel)[i]?=(sel[i]?).map fun p=>if p.1=true then c.tk.getD p.2 ⟨none,0,0,0⟩ else⟨none,0,0,p.2⟩
 |[],i=>by simp[fK]
 |(true,t)::l,i=>by cases i with
  |zero=>simp[fK]
  |succ i=>simp only[fK,List.getElem?_cons_succ];exact rp
 |(false,k)::l,i=>by cases i with
  |zero=>simp[fK]
  |succ i=>simp only[fK,List.getElem?_cons_succ];exact rp
theorem tA(r:Rel w0 im0 c st a w):∀{sel:List (Bool×Nat)},fJ st.tk.length sel=true→(fK c sel).map (·.tail)=ja st.tk sel
 |[],_=>rfl
 |(true,t)::l,h=>by
  simp only[fJ,Bool.and_eq_true,decide_eq_true_eq] at h
  have hlt:t<c.tk.length:=by rw[r.cM];exact h.1.1
  have h1:c.tk[t]?=some c.tk[t]:=by simp[hlt]
  have h2:=r.tail t _ h1
  simp only[fK,List.map_cons,ja,tA r h.2,List.getD_eq_getElem?_getD,h1,h2,Option.getD_some]
 |(false,k)::l,h=>by
  simp only[fJ] at h
  simp only[fK,List.map_cons,ja,tA r h]
theorem wN:∀{n:Nat} {sel:List (Bool×Nat)} {i t:Nat},fJ n sel=true→sel[i]?=some (true,t)→t<n
 |n,(true,u)::l,i,t,h,he=>by
  simp only[fJ,Bool.and_eq_true,decide_eq_true_eq] at h
  cases i with
  |zero=>simp only[List.getElem?_cons_zero,Option.some.injEq,Prod.mk.injEq,true_and] at he;subst he;exact h.1.1
  |succ i=>exact wN h.2 (by simpa using he)
 |n,(false,k)::l,i,t,h,he=>by
  simp only[fJ] at h
  cases i with
  |zero=>simp at he
  |succ i=>exact wN h (by simpa using he)
 |n,[],i,t,h,he=>by simp at he
theorem wM:∀{n:Nat} {sel:List (Bool×Nat)} {i j t:Nat},fJ n sel=true→sel[i]?=some (true,t)→sel[j]?=some (true,t)→i=j
 |n,(true,u)::l,i,j,t,h,h1,h2=>by
  simp only[fJ,Bool.and_eq_true,decide_eq_true_eq,Bool.not_eq_true',List.contains_eq_mem,decide_eq_false_iff_not] at h
  cases i with
  |zero=>cases j with
   |zero=>rfl
   |succ j=>
    simp only[List.getElem?_cons_zero,Option.some.injEq,Prod.mk.injEq,true_and] at h1;subst h1
    exact absurd (List.mem_of_getElem? (by simpa using h2)) h.1.2
  |succ i=>cases j with
   |zero=>
    simp only[List.getElem?_cons_zero,Option.some.injEq,Prod.mk.injEq,true_and] at h2;subst h2
    exact absurd (List.mem_of_getElem? (by simpa using h1)) h.1.2
   |succ j=>exact congrArg Nat.succ (wM h.2 (by simpa using h1) (by simpa using h2))
 |n,(false,k)::l,i,j,t,h,h1,h2=>by
  simp only[fJ] at h
  cases i with
  |zero=>simp at h1
  |succ i=>cases j with
   |zero=>simp at h2
   |succ j=>exact congrArg Nat.succ (wM h (by simpa using h1) (by simpa using h2))
 |n,[],i,j,t,h,h1,h2=>by simp at h1
theorem Ck(r:Rel w0 im0 c st a w){sel:List (Bool×Nat)}(h:fJ st.tk.length sel=true):kr c.im w0.heap.size w (fK c sel):=by
 have key:∀(i:Nat) (T:Tok) (b:Nat),(fK c sel)[i]?=some T→T.aZ=some b→∃t,sel[i]?=some (true,t)∧c.tk[t]?=some T:=by
  intro i T b h1 h2
  rw[rp] at h1
  cases hs:sel[i]? with
  |none=>simp[hs] at h1
  |some p=>
   obtain⟨q,t⟩:=p
   simp only[hs,Option.map_some,Option.some.injEq] at h1
   cases q with
   |false=>simp at h1;subst h1;simp at h2
   |true=>
    simp only[if_true] at h1
    have hlt:t<c.tk.length:=by rw[r.cM];exact wN h hs
    refine⟨t,rfl,?_⟩
    simp only[List.getD_eq_getElem?_getD,List.getElem?_eq_getElem hlt,Option.getD_some] at h1
    rw[←h1];simp[hlt]
 refine⟨fun i T b h1 h2=>?_,fun i j T U b d h1 h2 h3 h4 hne=>?_⟩
 ·obtain⟨t,_,h5⟩:=key i T b h1 h2
  exact r.tok t T b h5 h2
 ·obtain⟨t,e1,h5⟩:=key i T b h1 h3
  obtain⟨u,e2,h6⟩:=key j U d h2 h4
  refine r.apart.tt t u T U b d h5 h6 h3 h4 (fun e=>hne ?_)
  subst e
  exact wM h e1 e2
theorem Bg(r:Rel w0 im0 c st a w){sel:List (Bool×Nat)}(hs:fJ st.tk.length sel=true){x y:AV}{v:Value}(h:VR c x v)(ho:ko sel x y):VR ⟨[],fK c sel,c.im⟩ y v:=by
 unfold ko at ho
 split at ho
 ·rename_i t k es i k' es'
  obtain⟨h1,rfl,rfl⟩:=ho
  cases h with
  |base h=>cases h
  |tok hT h0 hk hle hcur=>
   refine .tok ?_ h0 hk hle hcur
   rw[rp,h1]
   simp[List.getD_eq_getElem?_getD,hT]
 ·obtain⟨rfl,rfl⟩:=ho
  exact .base h.fy
 ·cases h.eA;exact .base (.di _ _ _)
 ·rename_i i k
  cases h.eA
  exact .tok (T:=⟨none,0,0,k⟩) (by rw[rp,ho];simp) (.di k none 0) rfl (Nat.le_refl _) (fun _=> .inl ⟨rfl,rfl⟩)
 ·cases h.eA;exact .base .aw
 ·subst ho;cases h.bd;exact .base (.v _)
 ·subst ho;obtain⟨b,o,rfl,h0⟩:=h.oE;exact .base h0
 ·exact .base (.any _)
 ·exact ho.elim
theorem Be{sel:List (Bool×Nat)}:∀{xs ys:List AV},rP sel xs ys→xs.length=ys.length∧∀(i:Nat) (y:AV),ys[i]?=some y→∃x,xs[i]?=some x∧ko sel x y
 |[],[],_=>⟨rfl,by simp⟩
 |x::xs,y::ys,h=>by
  obtain⟨h1,h2⟩:=Be h.2
  refine⟨by simp[h1],fun i z hz=>?_⟩
  cases i with
  |zero=>simp only[List.getElem?_cons_zero,Option.some.injEq] at hz;subst hz;exact⟨x,rfl,h.1⟩
  |succ i=>exact h2 i z (by simpa using hz)
 |[],_::_,h=>h.elim
 |_::_,[],h=>h.elim
theorem Bd{sel:List (Bool×Nat)}:∀{xs ys:List AV},rQ sel xs ys→xs.length=ys.length∧∀(i:Nat) (y:AV),ys[i]?=some y→∃x,xs[i]?=some x∧oT sel x y
 |[],[],_=>⟨rfl,by simp⟩
 |x::xs,y::ys,h=>by
  obtain⟨h1,h2⟩:=Bd h.2
  refine⟨by simp[h1],fun i z hz=>?_⟩
  cases i with
  |zero=>simp only[List.getElem?_cons_zero,Option.some.injEq] at hz;subst hz;exact⟨x,rfl,h.1⟩
  |succ i=>exact h2 i z (by simpa using hz)
 |[],_::_,h=>h.elim
 |_::_,[],h=>h.elim
theorem Bc(r:Rel w0 im0 c st a w){sel:List (Bool×Nat)}(hs:fJ st.tk.length sel=true){x y:AV}{v:Value}(h:VR c x v)(ho:oT sel x y):VR ⟨[],fK c sel,c.im⟩ y v:=by
 unfold oT at ho
 split at ho
 ·rename_i xs ys
  obtain⟨h1,h2⟩:=Be ho
  obtain⟨vs,rfl,hn,hp⟩:=h.jx
  refine .agg ys vs ab (fun i y u e1 e2=>?_)
  obtain⟨x,hx,hxo⟩:=h2 i y e1
  exact Bg r hs (hp i x u hx e2) hxo
 ·exact Bg r hs h ho
theorem Bf(r:Rel w0 im0 c st a w){sel:List (Bool×Nat)}(hs:fJ st.tk.length sel=true){x y:AV}{v:Value}(h:VR c x v)(ho:oU sel x y):VR ⟨[],fK c sel,c.im⟩ y v:=by
 unfold oU at ho
 split at ho
 ·rename_i xs ys
  obtain⟨h1,h2⟩:=Bd ho
  obtain⟨vs,rfl,hn,hp⟩:=h.nV
  refine .ax ys vs ab (fun i y u e1 e2=>?_)
  obtain⟨x,hx,hxo⟩:=h2 i y e1
  exact Bc r hs (hp i x u hx e2) hxo
 ·exact Bc r hs h ho
def iu(P:Program)(st:St):List ResultVar→(List AV→Prop)→Prop
 |[],k=>k []
 |.tmp t::rs,k=>iu P st rs fun l=>k (st.ev (.tmp t)::l)
 |.cell x t::rs,k=>qi P st t (st.ev (.tmp x)) fun y=>iu P st rs fun l=>k (y::l)
def fB:List AV→AV
 |[x]=>x
 |l=> .ax l
def aN(P:Program)(rs:List ResultVar)(R:AV→List Nat→Prop)(st:St):Prop:=
 iu P st rs fun l=>∃sel y,fJ st.tk.length sel=true∧oU sel (fB l) y∧R y (ja st.tk sel)
def tX(P:Program)(rs:List ResultVar)(R:AV→List Nat→Prop):Exit→St→Prop
 |.normal,st|.ret,st=>aN P rs R st
 |_,_=>False
end
end Go.az
namespace Go.az
open Go Go.RowKit
section
variable{P:Program}{w0:World}{im0:cX}{c:Ctx}{st:St}{a:Act}{w:World}
theorem Tj{t:TypeId}{v u:Value}(h:(Instr.loadAt t v).run P w= .ok u w):(do loadVar t (←asAddr v):Sem Value).run P w= .ok u w:=by
 cases v<;>first
  |(simp[Instr.loadAt,Instr.sureAddr] at h;done)
  |skip
 case pointer a=>
  cases a with
  |none=>simp[Instr.loadAt,Instr.sureAddr] at h
  |some a=>simpa[Instr.loadAt,Instr.sureAddr,asAddr] using h
theorem kV(r:Rel w0 im0 c st a w):∀{rs:List ResultVar} {k:List AV→Prop},iu P st rs k→
 ∃l vs,(rs.mapM (fun|.tmp t=>pure (a.tmps.getD t undef)|.cell x t=>do loadVar t (←asAddr (a.tmps.getD x undef)):ResultVar→Sem Value)).run P w= .ok vs w∧Pw c l vs∧k l
 |[],k,h=>⟨[],[],by simp,⟨rfl,by simp⟩,h⟩
 |.tmp t::rs,k,h=>by
  have h':iu P st rs (fun l=>k (st.ev (.tmp t)::l)):=h
  obtain⟨l,vs,h1,h2,h3⟩:=kV r h'
  refine⟨st.ev (.tmp t)::l,a.tmps.getD t undef::vs,?_,⟨by simp[h2.1],fun i x u e1 e2=>?_⟩,h3⟩
  ·simp only[List.mapM_cons,Sem.run_bind,Sem.run_pure,Result.andThen_ok,h1]
  ·cases i with
   |zero=>simp only[List.getElem?_cons_zero,Option.some.injEq] at e1 e2;subst e1;subst e2;exact r.ev (.tmp t)
   |succ i=>exact h2.2 i x u (by simpa using e1) (by simpa using e2)
 |.cell x t::rs,k,h=>by
  obtain⟨u,y,hu,hv,h'⟩:=Ao r (r.ev (.tmp x)) h
  obtain⟨l,vs,h1,h2,h3⟩:=kV r h'
  have hl:=Tj hu
  refine⟨y::l,u::vs,?_,⟨by simp[h2.1],fun i z q e1 e2=>?_⟩,h3⟩
  ·simp only[Act.eval] at hl
   rw[List.mapM_cons,Sem.run_bind]
   simp only[hl,Result.andThen_ok,Sem.run_bind,h1,Sem.run_pure]
  ·cases i with
   |zero=>simp only[List.getElem?_cons_zero,Option.some.injEq] at e1 e2;subst e1;subst e2;exact hv
   |succ i=>exact h2.2 i z q (by simpa using e1) (by simpa using e2)
theorem wE{fn:Func}{tmps:Array Value}{vs:List Value}
 (h:(fn.results.toList.mapM (fun|.tmp t=>pure (tmps.getD t undef)|.cell x t=>do loadVar t (←asAddr (tmps.getD x undef)):ResultVar→Sem Value)).run P w= .ok vs w):
 (results fn tmps).run P w= .ok (if vs.length=1 then vs.headD undef else .tuple vs.toArray) w:=by
 have hm:(fn.results.mapM (fun|.tmp t=>pure (tmps.getD t undef)|.cell x t=>do loadVar t (←asAddr (tmps.getD x undef)):ResultVar→Sem Value)).run P w= .ok vs.toArray w:=by
  rw[Array.mapM_eq_mapM_toList]
  simp only[Sem.run_map,h,Result.andThen_ok]
 have he:results fn tmps=(do
  let vs ←fn.results.mapM (fun|.tmp t=>pure (tmps.getD t undef)|.cell x t=>do loadVar t (←asAddr (tmps.getD x undef)):ResultVar→Sem Value)
  pure (if h:vs.size=1 then vs[0] else .tuple vs)):=rfl
 rw[he]
 simp only[Sem.run_bind,hm,Result.andThen_ok,Sem.run_pure]
 congr 1
 cases vs with
 |nil=>simp
 |cons v vs=>cases vs with
  |nil=>simp
  |cons=>simp
theorem ai.aC{E:Env}{f:FuncId}{fn:Func}{body:Code}{args:List AV}{R:AV→List Nat→Prop}(hf:E.P.funcs[f]?=some fn)(hb:fn.body=some body){n:Nat}(hn:fn.ntmps=n){rs:List ResultVar}(hr:fn.results.toList=rs)
 (h:aa E body (tX E.P rs R) ⟨args++List.replicate (n-args.length) (.v undef),[],[],E.gl,none,[]⟩):ai E f args R:=by
 intro w im vs hE hG hok hpw
 subst hn;subst hr
 have hsz:vs.toArray.size=vs.length:=by simp
 refine calls_of_wp hf hb ?_
 have hrel:Rel w ⟨im,[],E.dr⟩ ⟨[],[],im⟩ ⟨args++List.replicate (fn.ntmps-args.length) (.v undef),[],[],E.gl,none,[]⟩ { tmps:=vs.toArray++Array.replicate (fn.ntmps-vs.toArray.size) undef,defers:=[] } w:=by
  refine⟨⟨rfl,fun b o hb=>by
   cases h:im b o with
   |none=>exact h
   |some x=>exact absurd (World.block_lt_of_cell? w ⟨b,o,none⟩ (hok b o x h)) (Nat.not_lt.2 hb)⟩,by simp[hpw.1],?_,Below.refl _ _,.refl _,fun _ _ _=>rfl,hok,rfl,by simp,rfl,by simp,by simp,⟨by simp,by simp,by simp⟩,fun g cs h=>hG g cs h,⟨rfl,by simp⟩,fun l d i h=>by simp at h⟩
  intro i x v h1 h2
  rcases fY _ _ _ _ h1 with⟨l1,h1⟩|⟨l1,h1⟩
  ·have:i<vs.length:=by rw[hpw.1];exact l1
   rw[Array.getElem?_append_left (by simpa using this)] at h2
   exact .base (hpw.2 i x v h1 (by simpa using h2))
  ·have hlen:vs.length=args.length:=hpw.1
   rw[Array.getElem?_append_right (by simp;omega)] at h2
   have e1:x= .v undef:=by
    have:=List.mem_of_getElem? h1
    simp only[List.mem_replicate] at this
    exact this.2
   have e2:v=undef:=by
    have:=Array.mem_of_getElem? h2
    simp only[Array.mem_replicate] at this
    exact this.2
   subst e1;subst e2
   exact .base (.v _)
 refine wp_mono (h w ⟨im,[],E.dr⟩ _ _ w hE ⟨hG,id⟩ hrel) fun e a' w' hh=>?_
 obtain⟨c',st',r',q⟩:=hh
 have fin:aN E.P fn.results.toList R st'→a'.defers=[]∧∃v,(results fn a'.tmps).run E.P w'= .ok v w'∧∃v' r tks im',Ending.returned v= .returned v'∧Below E.dr w.heap.size w w'∧im.le im'∧(∀(b o:Nat),b<w.heap.size→im' b o=im b o)∧
  (∀(b o:Nat) (x:Value),im' b o=some x→w'.cell? ⟨b,o,none⟩=some x)∧kr im' w.heap.size w' tks∧VR ⟨[],tks,im'⟩ r v'∧R r (tks.map (·.tail)):=by
  intro q
  obtain⟨l,us,h1,h2,sel,y,h3,h4,h5⟩:=kV r' q
  refine⟨r'.defers.1,_,wE h1,_,y,fK c' sel,c'.im,rfl,r'.below,r'.dc,r'.dq,r'.cr,Ck r' h3,?_,?_⟩
  ·refine Bf r' h3 (x:=fB l) ?_ h4
   cases l with
   |nil=>
    have:us=[]:=List.eq_nil_of_length_eq_zero h2.1
    subst this
    exact .ax [] [] rfl aB
   |cons x l=>cases l with
    |nil=>
     cases us with
     |nil=>have:=h2.1;simp at this
     |cons u us=>
      have:us=[]:=List.eq_nil_of_length_eq_zero (by have:=h2.1;simpa using this)
      subst this
      exact h2.2 0 x u rfl rfl
    |cons z l=>
     have hl2:us.length=(x::z::l).length:=h2.1
     rw[if_neg (by rw[hl2];simp)]
     exact .ax _ us h2.1 h2.2
  ·rw[tA r' h3];exact h5
 cases e<;>simp only[tX] at q<;>first|exact q.elim|skip
 case normal=>exact fin q
 case ret=>exact fin q
end
end Go.az
namespace Go.az
open Go Go.RowKit
abbrev i64(n:Int):AV:= .v (.int .i64 n)
abbrev bl(b:Bool):AV:= .v (.bool b)
abbrev str(l:List UInt8):AV:= .v (.string ⟨l.toArray⟩)
attribute [go_sem] eG cN rO qk oP oR nq oO dQ qz mv vJ qi nG qe qg nu qf qd qc rN fX rI ny jD
 qh nr rL rK tT iK qR lS dK rH fb idxFrom nH AV.clean nI AV.dR fE rJ mo AV.shift AV.oI AV.oJ
 St.ev St.put AV.kM gY AV.leaves AV.plain AV.en Value.oneCell' aN tX iu fB oU oT rQ rP ko fJ ja ji rM cj
@[go_sem] theorem acJ{b:Bool}:qK (.v (.bool b))=some (some b):=rfl
@[go_sem] theorem acK:qK (.v undef)=some none:=rfl
theorem Mu{α:Type}{a:α}{p:α→Prop}:(∃y,some a=some y∧p y)↔p a:=by simp
theorem Mq{α:Type}{p:α→Prop}:(∃y,(none:Option α)=some y∧p y)↔False:=by simp
theorem Mw{L:List UInt8}{p:List UInt8→Prop}:(∃l,L.map u8=l.map u8∧p l)↔p L:=by
 constructor
 ·rintro⟨l,h,hp⟩;rw[aas h];exact hp
 ·intro h;exact⟨L,rfl,h⟩
theorem Mx{p:List UInt8→Prop}:(∃l,([]:List AV)=l.map u8∧p l)↔p []:=by
 constructor
 ·rintro⟨l,h,hp⟩
  have:l=[]:=by simpa using h.symm
  subst this;exact hp
 ·intro h;exact⟨[],rfl,h⟩
theorem true_imp{p:Prop}:(true=true→p)↔p:=by simp
theorem false_imp{p:Prop}:(false=true→p)↔True:=by simp
theorem ZN{p:Prop}:(true=false→p)↔True:=by simp
theorem MH{p:Prop}:(false=false→p)↔p:=by simp
theorem PV{α:Type}(x:α)(l:List α)(d:α):(x::l).getD 0 d=x:=rfl
theorem PU{α:Type}(x:α)(l:List α)(n:Nat)(d:α):(x::l).getD (n+1) d=l.getD n d:=rfl
theorem Zy{α:Type}(l:List α):(⟨l⟩:Array α).toList=l:=rfl
attribute [go_sem] true_implies implies_true false_implies forall_const eq_self Mu Mq Mw Mx true_imp false_imp ZN MH PV PU Zy
 List.set_cons_zero List.set_cons_succ List.getElem?_cons_zero List.getElem?_cons_succ List.getElem?_toArray List.toList_toArray
 Option.bind_some Option.bind_none Option.map_some Option.map_none List.map_cons List.map_nil List.nil_append List.cons_append List.append_nil
 List.length_cons List.length_nil and_true true_and and_false false_and ne_eq not_false_eq_true not_true_eq_false List.all_cons List.all_nil Bool.and_true Bool.true_and
 cond_true cond_false Bool.not_true Bool.not_false exists_const List.replicate_succ List.replicate_zero Nat.reduceSub Nat.reduceAdd if_true if_false ite_true ite_false
 List.drop_succ_cons List.drop_zero List.take_succ_cons List.take_zero Nat.add_zero Nat.zero_add decide_true decide_false
end Go.az
namespace Go.az
open Go Go.RowKit
section
variable{P:Program}{k:AV→Prop}
def aA(f:(AV→Prop)→Prop):Prop:=∀k,f k→∃y,k y∧∀k':AV→Prop,k' y→f k'
def uU(P:Program)(t:TypeId):Bool:=
 match P.underlying t with
 |some (.slice _)=>false
 |_=>true
def pc(P:Program):Op→Bool
 |.binOp .eql t .. |.binOp .neq t .. =>uU P t
 |_=>true
theorem aA.at{y:AV}:aA (fun k=>k y):=fun _ h=>⟨y,h,fun _ h'=>h'⟩
theorem aA.false{f:(AV→Prop)→Prop}(h:∀k,¬f k):aA f:=fun k hk=>(h k hk).elim
theorem aA.and{p:Prop}{f:(AV→Prop)→Prop}(h:aA f):aA (fun k=>p∧f k):=fun k ⟨hp,hk⟩=>let⟨y,a,b⟩:=h k hk;⟨y,a,fun k' h'=>⟨hp,b k' h'⟩⟩
theorem aA.ex{α:Sort _}{f:α→(AV→Prop)→Prop}(h:∀a,aA (f a)):aA (fun k=>∃a,f a k):=fun k ⟨a,hk⟩=>let⟨y,c,d⟩:=h a k hk;⟨y,c,fun k' h'=>⟨a,d k' h'⟩⟩
theorem yK{t:TypeId}{cs:List AV}{o n:Nat}:aA (nu P t cs o n):=by
 unfold nu
 split
 ·split
  ·exact aA.and aA.at
  ·exact aA.ex fun _=>aA.and aA.at
 ·exact aA.false fun _ h=>h
theorem yJ{op:BinOp}{kd kd':IntKind}{x y:Int}:aA (oP op kd x kd' y):=by
 unfold oP
 cases op<;>first
  |exact aA.and (aA.and aA.at)
  |exact aA.and aA.at
theorem yL{op:BinOp}{x y:ByteArray}:aA (oR op x y):=by
 unfold oR
 cases op<;>first
  |exact aA.and aA.at
  |exact aA.at
  |exact aA.false fun _ h=>h
theorem LU{t:TypeId}{x y:AV}(ht:uU P t=true)(g:Bool→AV):aA (fun k=>fQ P t x y fun b=>k (g b)):=by
 unfold fQ
 have no:∀{e:TypeId},P.underlying t=some (.slice e)→False:=fun h=>by simp[uU,h] at ht
 split
 ·exact aA.and aA.at
 ·exact aA.and aA.at
 ·exact aA.false fun _ ⟨⟨e,he⟩,_⟩=>no he
 ·exact aA.false fun _ ⟨⟨e,he⟩,_⟩=>no he
 ·exact aA.false fun _ ⟨⟨e,he⟩,_⟩=>no he
 ·exact aA.and aA.at
 ·exact aA.and aA.at
 ·exact aA.ex fun _=>aA.ex fun _=>aA.and (aA.and aA.at)
 ·exact aA.false fun _ h=>h
theorem qB{st:St}{op:Op}(hd:pc P op=true):aA (cN P st op):=by
 cases op<;>show aA (fun k=>cN P st _ k)<;>simp only[cN]<;>first|exact aA.false fun _ h=>h|exact aA.at|skip
 case pick x y z=>
  unfold rO;split
  ·exact aA.at
  ·exact aA.false fun _ h=>h
 case load t x=>
  unfold qi
  refine aA.ex fun cs=>aA.and ?_
  split
  ·exact aA.and aA.at
  ·exact aA.ex fun _=>aA.and aA.at
  ·exact aA.false fun _ h=>h
 case nilCheck x=>
  unfold rN;split<;>first|exact aA.at|exact aA.false fun _ h=>h
 case binOp op t x y yt=>
  refine aA.and ?_
  unfold nq
  split
  ·exact yJ
  ·exact yL
  ·cases op<;>first|exact aA.false fun _ h=>h|exact LU hd _
 case unOp op t x=>unfold qk;split<;>first|exact aA.at|exact aA.false fun _ h=>h
 case convert s d x=>
  unfold oO
  split
  ·refine aA.and ?_
   split<;>first|exact aA.at|exact aA.false fun _ h=>h
  ·split<;>first|exact aA.and aA.at|exact aA.and (aA.and (aA.ex fun _=>aA.and aA.at))|exact aA.false fun _ h=>h
  ·exact aA.false fun _ h=>h
 case slice t x lo hi mx=>
  refine aA.and ?_
  unfold jL
  split
  ·exact aA.and (aA.ex fun _=>aA.ex fun _=>aA.and (aA.and (aA.and (aA.and (aA.and aA.at)))))
  ·exact aA.and (aA.ex fun _=>aA.ex fun _=>aA.and (aA.and (aA.and (aA.and (aA.and aA.at)))))
  ·exact aA.and (aA.and (aA.and aA.at))
  ·exact aA.and (aA.and (aA.ex fun _=>aA.and (aA.and (aA.and aA.at))))
  ·exact aA.ex fun _=>aA.ex fun _=>aA.and (aA.and (aA.and (aA.ex fun _=>aA.and (aA.and (aA.and (aA.and (aA.and aA.at)))))))
  ·exact aA.false fun _ h=>h
 case fieldAddr s x f=>
  unfold qe;split
  ·refine aA.and ?_
   split<;>first|exact aA.at|exact aA.false fun _ h=>h
  ·exact aA.false fun _ h=>h
 case field t x f=>
  unfold qd;split
  ·split
   ·exact yK
   ·exact aA.false fun _ h=>h
  ·exact aA.false fun _ h=>h
 case indexAddr t x i=>
  unfold qg;split
  ·split
   ·split
    ·exact aA.and (aA.and (aA.ex fun _=>aA.and aA.at))
    ·exact aA.and (aA.and (aA.and aA.at))
    ·exact aA.false fun _ h=>h
   ·split
    ·exact aA.and (aA.and aA.at)
    ·exact aA.and (aA.and aA.at)
    ·exact aA.false fun _ h=>h
   ·exact aA.false fun _ h=>h
  ·exact aA.false fun _ h=>h
 case index t x i=>
  unfold qf;split
  ·split
   ·split
    ·exact aA.and (aA.ex fun _=>aA.and aA.at)
    ·exact aA.false fun _ h=>h
   ·split
    ·exact aA.and (aA.and (aA.ex fun _=>aA.and yK))
    ·exact aA.false fun _ h=>h
   ·exact aA.false fun _ h=>h
  ·exact aA.false fun _ h=>h
 case extract x i=>
  unfold qc;split
  ·exact aA.ex fun _=>aA.and aA.at
  ·exact aA.false fun _ h=>h
 case build t ps=>
  unfold rI
  refine aA.ex fun _=>aA.and ?_
  split
  ·exact aA.ex fun _=>aA.and aA.at
  ·split
   ·exact aA.ex fun _=>aA.and aA.at
   ·exact aA.false fun _ h=>h
 case makeInterface t x=>
  unfold rL;split
  ·exact aA.and aA.at
  ·exact aA.false fun _ h=>h
 case makeFunc fn first cs=>
  unfold rK;split
  ·exact aA.at
  ·exact aA.false fun _ h=>h
 case call cl=>
  split
  ·unfold qh;split<;>first|exact aA.and aA.at|exact aA.false fun _ h=>h
  ·unfold nr;split<;>first|exact aA.at|exact aA.false fun _ h=>h
  ·unfold nr;split<;>first|exact aA.at|exact aA.false fun _ h=>h
  ·exact aA.false fun _ h=>h
end
def iL(s t:St):Prop:=∀(id:Nat) (es:List AV),s.own[id]?=some (some es)→t.own[id]?=some (some es)
theorem Gc{s t:St}(h:iL s t){x:AV}{cs:List AV}(hc:nG s x=some cs):nG t x=some cs:=by
 unfold nG at hc ⊢
 split at hc
 ·exact hc
 ·rename_i id idx off
  split at hc
  ·rename_i es hes
   rw[h id es hes];exact hc
  ·simp at hc
 ·simp at hc
theorem u3{s t:St}{ps:Array (Nat×Operand)}(h:∀x∈ps.toList.map (·.2),s.ev x=t.ev x):fX s ps=fX t ps:=by
 unfold fX
 apply List.map_congr_left
 intro p hp
 rw[h p.2 (List.mem_map.2 ⟨p,hp,rfl⟩)]
def jy:Op→Bool
 |.load .. =>true
 |_=>false
theorem sO{P:Program}{s t:St}{op:Op}{k:AV→Prop}(h:∀x∈op.operands,s.ev x=t.ev x)(ho:jy op=true→iL s t)(hk:cN P s op k):cN P t op k:=by
 cases op<;>simp only[cN] at hk ⊢ <;>first|exact hk.elim|skip
 case move x=>rw[←h x (by simp[Op.operands])];exact hk
 case assign x=>rw[←h x (by simp[Op.operands])];exact hk
 case pick x y z=>rw[←h x (by simp[Op.operands]),←h y (by simp[Op.operands]),←h z (by simp[Op.operands])];exact hk
 case load t' x=>
  rw[←h x (by simp[Op.operands])]
  obtain⟨cs,h1,h2⟩:=hk
  exact⟨cs,Gc (ho rfl) h1,h2⟩
 case nilCheck x=>rw[←h x (by simp[Op.operands])];exact hk
 case binOp op t' x y yt=>rw[←h x (by simp[Op.operands]),←h y (by simp[Op.operands])];exact hk
 case unOp op t' x=>rw[←h x (by simp[Op.operands])];exact hk
 case convert a b x=>rw[←h x (by simp[Op.operands])];exact hk
 case slice t' x lo hi mx=>
  obtain⟨rfl,hk⟩:=hk
  have h1:hi.map s.ev=hi.map t.ev:=by
   cases hi with
   |none=>rfl
   |some y=>simp only[Option.map_some];rw[h y (by simp[Op.operands])]
  have h2:lo.map s.ev=lo.map t.ev:=by
   cases lo with
   |none=>rfl
   |some y=>simp only[Option.map_some];rw[h y (by simp[Op.operands])]
  rw[←h x (by simp[Op.operands]),←h1,←h2]
  exact⟨rfl,hk⟩
 case fieldAddr a x f=>rw[←h x (by simp[Op.operands])];exact hk
 case field a x f=>rw[←h x (by simp[Op.operands])];exact hk
 case indexAddr a x i=>rw[←h x (by simp[Op.operands]),←h i (by simp[Op.operands])];exact hk
 case index a x i=>rw[←h x (by simp[Op.operands]),←h i (by simp[Op.operands])];exact hk
 case extract x i=>rw[←h x (by simp[Op.operands])];exact hk
 case build a ps=>rw[←u3 (s:=s) (fun x hx=>h x (by simpa[Op.operands] using hx))];exact hk
 case makeInterface a x=>rw[←h x (by simp[Op.operands])];exact hk
 case makeFunc fn first cs=>
  have h1:first.toList.map s.ev=first.toList.map t.ev:=List.map_congr_left fun x hx=>h x (by simp[Op.operands];exact .inl (by simpa using hx))
  have h2:cs.toList.map s.ev=cs.toList.map t.ev:=List.map_congr_left fun x hx=>h x (by simp[Op.operands];exact .inr (by simpa using hx))
  rw[←h1,←h2];exact hk
 case call cl=>
  obtain⟨callee,args,tys⟩:=cl
  have ha:∀x∈args.toList,s.ev x=t.ev x:=fun x hx=>h x (by simp[Op.operands,Call.operands];exact .inr (by simpa using hx))
  simp only at hk ⊢
  split at hk
  ·rename_i x ty h1 h2
   rw[←ha x (by rw[h1];simp)];exact hk
  ·rename_i x y h1
   rw[←ha x (by rw[h1];simp),←ha y (by rw[h1];simp)];exact hk
  ·rename_i x y h1
   rw[←ha x (by rw[h1];simp),←ha y (by rw[h1];simp)];exact hk
  ·exact hk.elim
def nX(P:Program):Op→Bool
 |.alloc _|.box .. |.store .. |.buildSlice .. =>false
 |.convert _ d _=>match P.underlying d with|some (.slice _)=>false|_=>true
 |.call c=>match c.callee with|.builtin .len|.builtin .min|.builtin .max=>true|_=>false
 |_=>true
def ig:Op→Bool
 |.store .. =>true
 |.call c=>match c.callee with|.builtin .append=>true|_=>false
 |_=>false
theorem pB{E:Env}{o:Oper}{s:St}{K:St→Prop}(h:nX E.P o.op=true):eh E o s K↔cN E.P s o.op fun y=>K (s.put o.dst y):=by
 obtain⟨dst,op,type,pos,after,guard⟩:=o
 unfold eh
 cases op<;>simp only[nX] at h<;>first|(simp at h;done)|exact Iff.rfl|skip
 case convert a b x=>
  simp only
  split
  ·rename_i hd;simp[hd] at h
  ·exact Iff.rfl
 case call cl=>
  obtain⟨callee,args,tys⟩:=cl
  simp only at h ⊢
  cases callee with
  |value f=>simp at h
  |invoke=>simp at h
  |builtin b=>cases b<;>first|(simp at h;done)|exact Iff.rfl
end Go.az
namespace Go.az
open Go Go.RowKit
structure Alike(o:Oper)(s t s' t':St):Prop where
 own:t'.own=s'.own
 tk:t'.tk=s'.tk
 gl:t'.gl=s'.gl
 bT:t'.bT=s'.bT
 ext:ig o.op=false→iL s s'
 kE:s'.bT=s.bT∨∃t,o.op= .alloc t
 at':∃z,s'=St.put { s with own:=s'.own,tk:=s'.tk,bT:=s'.bT } o.dst z∧t'=St.put { t with own:=s'.own,tk:=s'.tk,bT:=s'.bT } o.dst z
theorem iL.refl(s:St):iL s s:=fun _ _ h=>h
theorem iL.app{s t:St}{l:List (Option (List AV))}(h:t.own=s.own++l):iL s t:=fun id es he=>by
 rw[h,List.getElem?_append_left (bO he)];exact he
theorem dm{s:St}{d:Option Tmp}{x:AV}:(s.put d x).own=s.own∧(s.put d x).tk=s.tk∧(s.put d x).gl=s.gl∧(s.put d x).bT=s.bT:=by cases d<;>exact⟨rfl,rfl,rfl,rfl⟩
theorem iw{o:Oper}{sl tl su tu:List AV}{ow ow':List (Option (List AV))}{tk tk':List Nat}{gl:Nat→Option (List AV)}{rv rv':Option (List (Tmp×Nat))}
 (hx:ig o.op=false→∀(id:Nat) (es:List AV),ow[id]?=some (some es)→ow'[id]?=some (some es)) (hk:rv'=rv∨∃t,o.op= .alloc t) (z:AV):
 Alike o ⟨sl,ow,tk,gl,rv,su⟩ ⟨tl,ow,tk,gl,rv,tu⟩ (St.put ⟨sl,ow',tk',gl,rv',su⟩ o.dst z) (St.put ⟨tl,ow',tk',gl,rv',tu⟩ o.dst z):=by
 refine⟨by simp[dm],by simp[dm],by simp[dm],by simp[dm],fun h0 id es h=>by rw[dm.1];exact hx h0 id es h,by rw[dm.2.2.2];exact hk,z,?_,?_⟩
 ·simp[dm]
 ·simp[dm]
theorem vG{P:Program}{st:St}{op:Op}{k k':AV→Prop}(hkk:∀y,k y→k' y)(hl:cN P st op k):cN P st op k':=by
 cases hd:pc P op with
 |true=>obtain⟨y,a,b⟩:=qB hd k hl;exact b k' (hkk y a)
 |false=>
  cases op<;>simp only[pc] at hd<;>try(simp at hd;done)
  case binOp op ty x y yt=>
   cases op<;>simp only at hd<;>try(simp at hd;done)
   all_goals
    simp only[cN] at hl ⊢
    refine⟨hl.1,?_⟩
    have hl:=hl.2
    unfold nq at hl ⊢
    split at hl
    ·obtain⟨y,a,b⟩:=yJ k hl;exact b k' (hkk y a)
    ·obtain⟨y,a,b⟩:=yL k hl;exact b k' (hkk y a)
    ·simp only at hl ⊢
     unfold fQ at hl ⊢
     split at hl<;>first
      |exact hl.elim
      |exact⟨hl.1,hkk _ hl.2⟩
      |exact⟨hl.1,fun b hb=>hkk _ (hl.2 b hb)⟩
      |(obtain⟨ks,b,h1,h2,h3⟩:=hl;exact⟨ks,b,h1,h2,hkk _ h3⟩)
theorem oY{E:Env}{o:Oper}{s t:St}{C D:St→Prop}(h:∀x∈o.op.operands,s.ev x=t.ev x)(ho:s.own=t.own)(htk:s.tk=t.tk)(hg:s.gl=t.gl)(hr:s.bT=t.bT)(hk:eh E o s C)
 (hD:∀s' t',C s'→Alike o s t s' t'→D t'):eh E o t D:=by
 obtain⟨sl,ow,tk,gl,rv,su⟩:=s
 obtain⟨tl,ow',tk',gl',rv',tu⟩:=t
 simp only at ho htk hg hr
 subst ho;subst htk;subst hg;subst hr
 have light:cN E.P ⟨sl,ow,tk,gl,rv,su⟩ o.op (fun y=>C (St.put ⟨sl,ow,tk,gl,rv,su⟩ o.dst y))→cN E.P ⟨tl,ow,tk,gl,rv,tu⟩ o.op (fun y=>D (St.put ⟨tl,ow,tk,gl,rv,tu⟩ o.dst y)):=fun hk=>by
  have h1:=sO h (by intro _ id es he;exact he) hk
  exact vG (fun y hy=>hD _ _ hy (iw (fun _ _ _ h=>h) (.inl rfl) y)) h1
 obtain⟨dst,op,type,pos,after,guard⟩:=o
 unfold eh at hk ⊢
 have app:∀{l:List (Option (List AV))} (id:Nat) (es:List AV),ow[id]?=some (some es)→(ow++l)[id]?=some (some es):=fun id es he=>by rw[List.getElem?_append_left (bO he)];exact he
 cases op<;>simp only at hk ⊢
 case alloc ty=>
  unfold iK at hk ⊢
  cases rv with
  |none=>
   simp only at hk ⊢
   obtain⟨z,hz,hk⟩:=hk
   exact⟨z,hz,hD _ _ hk (iw (fun _=>app) (.inl rfl) _)⟩
  |some l=>
   simp only at hk ⊢
   obtain⟨z,hz,i,hi,hn,hk⟩:=hk
   refine⟨z,hz,i,hi,hn,hD _ _ hk (iw (fun _ id es he=>?_) (.inr ⟨ty,rfl⟩) _)⟩
   have:i≠id:=fun e=>by rw[e,he] at hn;simp at hn
   rw[List.getElem?_set_ne this];exact he
 case box ty x=>
  rw[←h x (by simp[Op.operands])]
  obtain⟨h1,h2,hk⟩:=hk
  exact⟨h1,h2,hD _ _ hk (iw (fun _=>app) (.inl rfl) _)⟩
 case store ty x y=>
  rw[←h x (by simp[Op.operands]),←h y (by simp[Op.operands])]
  unfold oQ at hk ⊢
  split at hk
  ·obtain⟨n,es,e,g1,g2,g3,g4,g5,g6,g7,hk⟩:=hk
   exact⟨n,es,e,g1,g2,g3,g4,g5,g6,g7,hD _ _ hk (iw (fun h0=>by simp[ig] at h0) (.inl rfl) _)⟩
  ·exact hk.elim
 case buildSlice ty n ps=>
  rw[←u3 (s:=⟨sl,ow,tk,gl,rv,su⟩) (fun x hx=>h x (by simpa[Op.operands] using hx))]
  obtain⟨e,k,m,ys,h1,h2,h3,h4,h5,hk⟩:=hk
  exact⟨e,k,m,ys,h1,h2,h3,h4,h5,hD _ _ hk (iw (fun _ _ _ h=>h) (.inl rfl) _)⟩
 case convert a b x=>
  split at hk
  ·rw[←h x (by simp[Op.operands])]
   obtain⟨h1,hk⟩:=hk
   refine⟨h1,?_⟩
   split at hk
   ·exact⟨hk.1,hD _ _ hk.2 (iw (fun _ _ _ h=>h) (.inl rfl) _)⟩
   ·exact⟨hk.1,hk.2.1,hk.2.2.1,hk.2.2.2.1,hD _ _ hk.2.2.2.2 (iw (fun _ _ _ h=>h) (.inl rfl) _)⟩
   ·exact hk.elim
  ·exact light hk
 case call cl=>
  obtain⟨callee,args,tys⟩:=cl
  have ha:∀x∈args.toList,St.ev ⟨sl,ow,tk,gl,rv,su⟩ x=St.ev ⟨tl,ow,tk,gl,rv,tu⟩ x:=fun x hx=>h x (by simp[Op.operands,Call.operands];exact .inr (by simpa using hx))
  simp only at hk ⊢
  split at hk
  ·rename_i x y t1 t2 h1 h2
   rw[←ha x (by rw[h1];simp),←ha y (by rw[h1];simp)]
   obtain⟨g1,e,k,n,xs,g2,g3,hk⟩:=hk
   refine⟨g1,e,k,n,xs,g2,g3,?_⟩
   split at hk
   ·obtain⟨g4,g5,g6,g7,hk⟩:=hk
    exact⟨g4,g5,g6,g7,hD _ _ hk (iw (fun _ _ _ h=>h) (.inl rfl) _)⟩
   ·obtain⟨g6,g7,hk⟩:=hk
    exact⟨g6,g7,hD _ _ hk (iw (fun _ _ _ h=>h) (.inl rfl) _)⟩
   ·obtain⟨g4,g5,g6,g7,g8,l,g9,g10,g11,hk⟩:=hk
    exact⟨g4,g5,g6,g7,g8,l,g9,g10,g11,fun m=>hD _ _ (hk m) (iw (fun h0=>by simp[ig] at h0) (.inl rfl) _)⟩
   ·exact hk.elim
  ·rename_i f
   have hf:St.ev ⟨sl,ow,tk,gl,rv,su⟩ f=St.ev ⟨tl,ow,tk,gl,rv,tu⟩ f:=h f (by simp[Op.operands,Call.operands])
   have hm:args.toList.map (St.ev ⟨sl,ow,tk,gl,rv,su⟩)=args.toList.map (St.ev ⟨tl,ow,tk,gl,rv,tu⟩):=List.map_congr_left ha
   rw[←hf,←hm]
   unfold oN at hk ⊢
   split at hk
   ·obtain⟨g1,hk⟩:=hk
    rcases hk with⟨ys,g2,R,g3,hk⟩|⟨g0,ys,g2,R,g3,hk⟩
    ·exact⟨g1,.inl ⟨ys,g2,R,g3,fun r tks hR=>hD _ _ (hk r tks hR) (iw (fun _ _ _ h=>h) (.inl rfl) _)⟩⟩
    ·refine⟨g1,.inr ⟨g0,ys,g2,R,g3,?_⟩⟩
     rcases hk with hk|hk
     ·exact .inl fun r tks hR=>⟨(hk r tks hR).1,hD _ _ (hk r tks hR).2 (iw (fun _ _ _ h=>h) (.inl rfl) _)⟩
     ·refine .inr fun r tks hR=>?_
      obtain⟨t,k,es,e1,e2,e3,e4⟩:=hk r tks hR
      exact⟨t,k,es,e1,e2,e3,fun m=>hD _ _ (e4 m) (iw (fun _=>app) (.inl rfl) _)⟩
   ·exact hk.elim
  ·exact light hk
 all_goals exact light hk
end Go.az
namespace Go.az
open Go Go.RowKit
inductive cO where
 |done
 |take (i:Nat) (p:cO)
 |fork (p:cO)
 |alt (i:Nat) (p:cO) (rest:cO)
 |ends
def cO.alts:cO→List Nat
 |.alt i _ rest=>i::rest.alts
 |_=>[]
def nz:Op→Bool
 |.alloc _=>true
 |_=>false
def pX(P:Program)(ops:Array Oper)(p o:Oper):Bool:=
 ((nX P p.op&&pc P p.op&&(!ig o.op||!jy p.op))||(nz p.op&&p.dst.isSome&&!ig o.op&&!jy o.op)) &&
 (match p.dst with|none=>true|some d=>!(Oper.looksAt ops o).contains d&&o.dst !=some d) &&
 (match o.dst with|none=>true|some d=>!(Oper.looksAt ops p).contains d)
def gD(ops:Array Oper)(anc:List (List Nat)):Bool:=
 (List.range ops.size).all fun o=>(anc.getD o []).all fun p=>
   match ops[o]? with
   |none=>false
   |some x=>x.after.toList.any fun e=>Region.binds .any e&&(e.on==p||(anc.getD e.on []).contains p)
def nN(P:Program)(ops:Array Oper)(anc:List (List Nat))(L:Array Bool)(p:Nat):Bool:=
 match ops[p]? with
 |none=>false
 |some x=>(List.range ops.size).all fun o=>o==p||L.getD o true||(anc.getD o []).contains p||(match ops[o]? with|none=>true|some y=>pX P ops x y)
def iC(P:Program)(ops:Array Oper)(anc:List (List Nat)):Bool→cO→Array Bool→Nat→Bool
 |b,.done,L,_=>b&&(Region.ready .any ops L).isEmpty
 |b,.take i p,L,n=>b&&(match n with|0=>false|m+1=>(Region.ready .any ops L).contains i&&nN P ops anc L i&&iC P ops anc true p (L.setIfInBounds i true) m)
 |b,.fork p,L,n=>b&&(p.alts==Region.ready .any ops L)&&!p.alts.isEmpty&&iC P ops anc false p L n
 |b,.alt i p rest,L,n=>!b&&(match n with|0=>false|m+1=>(Region.ready .any ops L).contains i&&iC P ops anc true p (L.setIfInBounds i true) m&&iC P ops anc false rest L (m+1))
 |b,.ends,_,_=>!b
def bI(E:Env)(ops:Array Oper)(i:Nat)(C:St→Prop)(st:St):Prop:=
 match ops[i]? with
 |none=>C st
 |some o=>∃q,eG ops o st=some q∧(q=true→eh E o st C)∧(q=false→C (st.put o.dst (.v undef)))
def et(E:Env)(ops:Array Oper)(K:St→Prop):cO→St→Prop
 |.done,st=>K st
 |.take i p,st=>bI E ops i (et E ops K p) st
 |.fork p,st=>et E ops K p st
 |.alt i p rest,st=>bI E ops i (et E ops K p) st∧et E ops K rest st
 |.ends,_=>True
def lr(E:Env)(ops:Array Oper)(K:St→Prop):Nat→Array Bool→St→Prop
 |0,L,st=>Region.ready .any ops L=[]∧K st
 |n+1,L,st=>(Region.ready .any ops L=[]→K st)∧∀i∈Region.ready .any ops L,bI E ops i (lr E ops K n (L.setIfInBounds i true)) st
section
variable{E:Env}{ops:Array Oper}{K:St→Prop}{anc:List (List Nat)}
theorem oZ{o:Oper}{s:St}{C D:St→Prop}(hk:eh E o s C)(h:∀s',C s'→D s'):eh E o s D:=by
 refine oY (fun _ _=>rfl) rfl rfl rfl rfl hk (fun s' t' hc ha=>?_)
 obtain⟨z,h1,h2⟩:=ha.at'
 rw[h2,←h1];exact h _ hc
theorem bI.mono{i:Nat}{C D:St→Prop}{st:St}(hk:bI E ops i C st)(h:∀s,C s→D s):bI E ops i D st:=by
 unfold bI at *
 split
 ·rename_i h0;rw[h0] at hk;exact h _ hk
 ·rename_i o h0
  rw[h0] at hk
  obtain⟨q,h1,h2,h3⟩:=hk
  exact⟨q,h1,fun hq=>oZ (h2 hq) h,fun hq=>h _ (h3 hq)⟩
theorem rU{w0:World}{im0:cX}(h0:E.ok w0)(hG:jj E im0){Q:Exit→Act→World→Prop}(hQ:∀a w,gN w0 im0 K a w→Q .normal a w):∀(n:Nat) (L:Array Bool) (st:St) (c:Ctx) (a:Act) (w:World),
 Rel w0 im0 c st a w→lr E ops K n L st→wpAny E.P .any ops Q n L a w
 |0,_,st,c,_,_,r,h=>⟨h.1,hQ _ _ ⟨c,st,r,h.2⟩⟩
 |n+1,L,st,c,a,w,r,h=>by
  refine⟨fun he=>hQ _ _ ⟨c,st,r,h.1 he⟩,fun i hi=>?_⟩
  have h1:=h.2 i hi
  unfold bI at h1
  unfold wpOp
  cases hop:ops[i]? with
  |none=>obtain⟨_,o,ho,_⟩:=mem_ready.1 hi;rw[hop] at ho;simp at ho
  |some o=>
   rw[hop] at h1
   obtain⟨q,hq,h2,h3⟩:=h1
   have hw:=xh r hq
   simp only[]
   rw[hw]
   cases q with
   |true=>
    simp only[if_true]
    exact .inl (Oper.wp_mono (fun a' w' ⟨c',st',r',h'⟩=>rU h0 hG hQ n _ st' c' a' w' r' h') (uk h0 hG r (h2 rfl)))
   |false=>
    simp only[Bool.false_eq_true,if_false]
    exact rU h0 hG hQ n _ _ c _ _ (r.put o.dst (.base (.v undef))) (h3 rfl)
theorem nL{st:St}{d:Option Tmp}{y:AV}{x:Operand}(h:∀t,x= .tmp t→d≠some t):(st.put d y).ev x=st.ev x:=by
 cases d with
 |none=>rfl
 |some d=>
  cases x with
  |tmp t=>
   have:d≠t:=fun e=>h t rfl (by rw[e])
   simp[St.ev,St.put,List.getD_eq_getElem?_getD,List.getElem?_set_ne this]
  |const=>rfl
  |global g=>rfl
  |func f=>rfl
theorem mg{st:St}{d:Option Tmp}{y:AV}{o:Oper}(h:∀t∈Oper.looksAt ops o,d≠some t):eG ops o (st.put d y)=eG ops o st:=by
 unfold eG
 cases hg:o.guard with
 |none=>rfl
 |some g=>
  obtain⟨j,want⟩:=g
  simp only[]
  cases hd:(ops[j]?).bind (·.dst) with
  |none=>rfl
  |some u=>
   have:d≠some u:=h u (by simp[Oper.looksAt,hg,hd])
   have e:(st.put d y).tmps.getD u .any=st.tmps.getD u .any:=by
    cases d with
    |none=>rfl
    |some d=>
     have:d≠u:=fun e=>this (by rw[e])
     simp[St.put,List.getD_eq_getElem?_getD,List.getElem?_set_ne this]
   simp only[e]
theorem nY{o:Oper}{t:Tmp}(h:Operand.tmp t∈o.op.operands):t∈Oper.looksAt ops o:=by
 simp only[Oper.looksAt,List.mem_append,List.mem_filterMap]
 exact .inl ⟨.tmp t,by simpa using h,rfl⟩
theorem put_comm{st:St}{d e:Option Tmp}{x y:AV}(h:∀t,d=some t→e≠some t):(st.put d x).put e y=(st.put e y).put d x:=by
 cases d with
 |none=>rfl
 |some d=>
  cases e with
  |none=>rfl
  |some e=>
   have:d≠e:=fun he=>h d rfl (by rw[he])
   simp[St.put,List.set_comm _ _ this]
theorem wu{st:St}{d:Option Tmp}{x:AV}{own:List (Option (List AV))}{tk:List Nat}{rv:Option (List (Tmp×Nat))}:({ st.put d x with own:=own,tk:=tk,bT:=rv }:St)=St.put { st with own:=own,tk:=tk,bT:=rv } d x:=by cases d<;>rfl
theorem YB{i j:Nat}{p o:Oper}{C:St→Prop}{st:St}(hp:ops[i]?=some p)(ho:ops[j]?=some o)(hl:nX E.P p.op=true)(hd:pc E.P p.op=true)(hst:(!ig o.op||!jy p.op)=true)
 (hpo:(match p.dst with|none=>true|some d=>!(Oper.looksAt ops o).contains d&&o.dst !=some d)=true) (hop:(match o.dst with|none=>true|some d=>!(Oper.looksAt ops p).contains d)=true)
 (h:bI E ops i (bI E ops j C) st):bI E ops j (bI E ops i C) st:=by
 have hpo1:∀t∈Oper.looksAt ops o,p.dst≠some t:=fun t ht e=>by
  rw[e] at hpo
  simp only[Bool.and_eq_true,Bool.not_eq_true'] at hpo
  have:=hpo.1
  simp[ht] at this
 have hpo2:∀t,p.dst=some t→o.dst≠some t:=fun t e1 e2=>by
  rw[e1] at hpo
  simp only[Bool.and_eq_true] at hpo
  have:=hpo.2
  simp[e2] at this
 have hop1:∀t∈Oper.looksAt ops p,o.dst≠some t:=fun t ht e=>by
  rw[e] at hop
  simp[ht] at hop
 have h1:∃y,(∀C:St→Prop,C (st.put p.dst y)→bI E ops i C st)∧bI E ops j C (st.put p.dst y)∧
  (∀(C:St→Prop) (t:St),(∀x∈p.op.operands,st.ev x=t.ev x)→eG ops p t=eG ops p st→(jy p.op=true→iL st t)→C (t.put p.dst y)→bI E ops i C t):=by
  unfold bI at h
  rw[hp] at h
  simp only at h
  obtain⟨q,hq,h2,h3⟩:=h
  cases q with
  |true=>
   have h2:=(pB hl).1 (h2 rfl)
   obtain⟨y,ha,hb⟩:=qB hd _ h2
   have key:∀(C:St→Prop) (t:St),(∀x∈p.op.operands,st.ev x=t.ev x)→eG ops p t=eG ops p st→(jy p.op=true→iL st t)→C (t.put p.dst y)→bI E ops i C t:=fun C t e1 e2 e3 hC=>by
    unfold bI
    rw[hp]
    refine⟨true,by rw[e2];exact hq,fun _=>(pB hl).2 ?_,fun hq=>by simp at hq⟩
    exact sO e1 e3 (hb (fun z=>C (t.put p.dst z)) hC)
   exact⟨y,fun C hC=>key C st (fun _ _=>rfl) rfl (fun _=> .refl _) hC,by unfold bI;exact ha,key⟩
  |false=>
   have key:∀(C:St→Prop) (t:St),(∀x∈p.op.operands,st.ev x=t.ev x)→eG ops p t=eG ops p st→(jy p.op=true→iL st t)→C (t.put p.dst (.v undef))→bI E ops i C t:=fun C t e1 e2 e3 hC=>by
    unfold bI
    rw[hp]
    exact⟨false,by rw[e2];exact hq,fun hq=>by simp at hq,fun _=>hC⟩
   exact⟨.v undef,fun C hC=>key C st (fun _ _=>rfl) rfl (fun _=> .refl _) hC,by unfold bI;exact h3 rfl,key⟩
 obtain⟨y,_,h2,key⟩:=h1
 have hwp:∀{t:St} {own:List (Option (List AV))} {tk:List Nat} {rv:Option (List (Tmp×Nat))} {z:AV},t=St.put { st with own:=own,tk:=tk,bT:=rv } o.dst z→eG ops p t=eG ops p st:=fun{t own tk rv z} e=>by
  rw[e,mg hop1];rfl
 have hevp:∀{t:St} {own:List (Option (List AV))} {tk:List Nat} {rv:Option (List (Tmp×Nat))} {z:AV},t=St.put { st with own:=own,tk:=tk,bT:=rv } o.dst z→∀x∈p.op.operands,st.ev x=t.ev x:=fun{t own tk rv z} e x hx=>by
  rw[e,nL (fun u hu=>hop1 u (nY (hu ▸ hx)))]
  cases x<;>rfl
 unfold bI at h2 ⊢
 rw[ho] at h2 ⊢
 simp only at h2 ⊢
 obtain⟨q,hq,h3,h4⟩:=h2
 rw[mg hpo1] at hq
 refine⟨q,hq,fun e=>?_,fun e=>?_⟩
 ·refine oY (t:=st) (fun x hx=>nL (fun u hu=>hpo1 u (nY (hu ▸ hx)))) dm.1 dm.2.1 dm.2.2.1 dm.2.2.2 (h3 e) (fun s' t' hc ha=>?_)
  obtain⟨z,e1,e2⟩:=ha.at'
  rw[wu] at e1
  have hC:C (t'.put p.dst y):=by
   rw[e2,←put_comm (fun t h1 h2=>hpo2 t h1 h2),←e1]
   exact hc
  have:=key C t' (hevp e2) (hwp e2) (fun hload=>by
   have hns:ig o.op=false:=by
    cases hso:ig o.op with
    |false=>rfl
    |true=>simp[hso,hload] at hst
   have:=ha.ext hns
   intro id es he
   rw[ha.own]
   exact this id es (by rw[dm.1];exact he)) hC
  unfold bI at this
  exact this
 ·have h4:=h4 e
  rw[put_comm (fun t h1 h2=>hpo2 t h1 h2)] at h4
  have e2:st.put o.dst (.v undef)=St.put { st with own:=st.own,tk:=st.tk,bT:=st.bT } o.dst (.v undef):=rfl
  have:=key C (st.put o.dst (.v undef)) (hevp e2) (hwp e2) (fun _ id es he=>by rw[dm.1];exact he) h4
  unfold bI at this
  exact this
structure km(l:List (Tmp×Nat)):Prop where
 fst:∀(t i j:Nat),(t,i)∈l→(t,j)∈l→i=j
 snd:∀(t u i:Nat),(t,i)∈l→(u,i)∈l→t=u
theorem km.drop{l:List (Tmp×Nat)}(h:km l)(i:Nat):km (dK i l):=
 ⟨fun t a b h1 h2=>h.fst t a b (lU.1 h1).1 (lU.1 h2).1,fun t u a h1 h2=>h.snd t u a (lU.1 h1).1 (lU.1 h2).1⟩
theorem Ar{l:List (Tmp×Nat)}(h:∀(t i j:Nat),(t,i)∈l→(t,j)∈l→i=j){t:Tmp}{i:Nat}(hm:(t,i)∈l):lS t l=some i:=by
 induction l with
 |nil=>simp at hm
 |cons p l ih=>
  unfold lS
  by_cases e:t=p.1
  ·rw[if_pos e]
   have:(t,p.2)∈p::l:=by subst e;exact List.mem_cons_self ..
   rw[h t p.2 i this hm]
  ·rw[if_neg e]
   rcases List.mem_cons.1 hm with rfl|hm
   ·exact absurd rfl e
   ·exact ih (fun t i j h1 h2=>h t i j (List.mem_cons_of_mem _ h1) (List.mem_cons_of_mem _ h2)) hm
theorem yT(i j:Nat):∀l:List (Tmp×Nat),dK i (dK j l)=dK j (dK i l)
 |[]=>rfl
 |p::l=>by
  have ih:=yT i j l
  by_cases h1:p.2=i<;>by_cases h2:p.2=j
  ·simp only[dK,if_pos h1,if_pos h2];exact ih
  ·simp only[dK,if_pos h1,if_neg h2];exact ih
  ·simp only[dK,if_neg h1,if_pos h2];exact ih
  ·simp only[dK,if_neg h1,if_neg h2];rw[ih]
theorem DX{o:Oper}{tl sl tu su:List AV}{ow:List (Option (List AV))}{tk:List Nat}{gl:Nat→Option (List AV)}{l:List (Tmp×Nat)}{id:Nat}{a:List AV}{d:Tmp}{C D:St→Prop}
 (hst:ig o.op=false) (hld:jy o.op=false) (h:∀x∈o.op.operands,St.ev ⟨tl,ow.set id (some a),tk,gl,some (dK id l),tu⟩ x=St.ev ⟨sl,ow,tk,gl,some l,su⟩ x) (hn:ow[id]?=some none) (hd:(d,id)∈l) (hg:km l) (hdo:o.dst≠some d)
 (hk:eh E o ⟨tl,ow.set id (some a),tk,gl,some (dK id l),tu⟩ C)
 (hD:∀ow' tk' l' z,ow'[id]?=some none→(d,id)∈l'→km l'→C (St.put ⟨tl,ow'.set id (some a),tk',gl,some (dK id l'),tu⟩ o.dst z)→D (St.put ⟨sl,ow',tk',gl,some l',su⟩ o.dst z)):eh E o ⟨sl,ow,tk,gl,some l,su⟩ D:=by
 have hlt:id<ow.length:=(List.getElem?_eq_some_iff.1 hn).1
 have light:cN E.P ⟨tl,ow.set id (some a),tk,gl,some (dK id l),tu⟩ o.op (fun y=>C (St.put ⟨tl,ow.set id (some a),tk,gl,some (dK id l),tu⟩ o.dst y))→cN E.P ⟨sl,ow,tk,gl,some l,su⟩ o.op (fun y=>D (St.put ⟨sl,ow,tk,gl,some l,su⟩ o.dst y)):=fun hk=>
  vG (fun y hy=>hD _ _ _ _ hn hd hg hy) (sO h (fun e=>by rw[hld] at e;simp at e) hk)
 have app:∀{b:Option (List AV)},(ow.set id (some a))++[b]=(ow++[b]).set id (some a):=fun{b}=>by rw[List.set_append_left _ _ hlt]
 have app2:∀{b:Option (List AV)},(ow++[b])[id]?=some none:=fun{b}=>by rw[List.getElem?_append_left hlt];exact hn
 obtain⟨dst,op,type,pos,after,guard⟩:=o
 unfold eh at hk ⊢
 cases op<;>simp only at hk ⊢
 case alloc ty=>
  unfold iK at hk ⊢
  simp only at hk ⊢
  obtain⟨z,hz,i,hi,hni,hk⟩:=hk
  have hne:id≠i:=fun e=>by
   subst e
   rw[List.getElem?_set,if_pos rfl,if_pos hlt] at hni
   simp at hni
  rw[List.getElem?_set_ne hne] at hni
  obtain⟨t,ht,hm⟩:=Ap hi
  have hm:=(lU.1 hm).1
  refine⟨z,hz,i,by rw[ht];exact Ar hg.fst hm,hni,hD _ _ _ _ (by rw[List.getElem?_set_ne (fun e=>hne e.symm)];exact hn) (lU.2 ⟨hd,hne⟩) (hg.drop i) ?_⟩
  rw[List.set_comm _ _ (fun e=>hne e.symm),yT]
  exact hk
 case box ty x=>
  rw[←h x (by simp[Op.operands])]
  obtain⟨h1,h2,hk⟩:=hk
  refine⟨h1,h2,hD _ _ _ _ app2 hd hg ?_⟩
  rw[←app]
  simpa only[List.length_set] using hk
 case store=>simp[ig] at hst
 case buildSlice ty n ps=>
  rw[←u3 (s:=⟨tl,ow.set id (some a),tk,gl,some (dK id l),tu⟩) (fun x hx=>h x (by simpa[Op.operands] using hx))]
  obtain⟨e,k,m,ys,h1,h2,h3,h4,h5,hk⟩:=hk
  exact⟨e,k,m,ys,h1,h2,h3,h4,h5,hD _ _ _ _ hn hd hg hk⟩
 case convert b e x=>
  split at hk
  ·rw[←h x (by simp[Op.operands])]
   obtain⟨h1,hk⟩:=hk
   refine⟨h1,?_⟩
   split at hk
   ·exact⟨hk.1,hD _ _ _ _ hn hd hg hk.2⟩
   ·exact⟨hk.1,hk.2.1,hk.2.2.1,hk.2.2.2.1,hD _ _ _ _ hn hd hg hk.2.2.2.2⟩
   ·exact hk.elim
  ·exact light hk
 case call cl=>
  obtain⟨callee,args,tys⟩:=cl
  have ha:∀x∈args.toList,St.ev ⟨tl,ow.set id (some a),tk,gl,some (dK id l),tu⟩ x=St.ev ⟨sl,ow,tk,gl,some l,su⟩ x:=fun x hx=>h x (by simp[Op.operands,Call.operands];exact .inr (by simpa using hx))
  simp only at hk ⊢
  split at hk
  ·simp[ig] at hst
  ·rename_i f
   have hf:=h f (by simp[Op.operands,Call.operands])
   have hm:=List.map_congr_left ha
   rw[←hf,←hm]
   unfold oN at hk ⊢
   split at hk
   ·obtain⟨g1,hk⟩:=hk
    rcases hk with⟨ys,g2,R,g3,hk⟩|⟨g0,_⟩
    ·exact⟨g1,.inl ⟨ys,g2,R,g3,fun r tks hR=>hD _ _ _ _ hn hd hg (hk r tks hR)⟩⟩
    ·simp at g0
   ·exact hk.elim
  ·exact light hk
 all_goals exact light hk
theorem lC{i:Nat}{o:Oper}{C:St→Prop}{st:St}(h:ops[i]?=some o):bI E ops i C st=∃q,eG ops o st=some q∧(q=true→eh E o st C)∧(q=false→C (st.put o.dst (.v undef))):=by
 unfold bI;rw[h]
theorem r9{o:Oper}{ty:TypeId}{st:St}{K:St→Prop}(h:o.op= .alloc ty):eh E o st K=iK E.P ty o.dst st fun st' x=>K (st'.put o.dst x):=by
 unfold eh;rw[h]
theorem YA{i j:Nat}{p o:Oper}{C:St→Prop}{st:St}(hr:∃l,st.bT=some l∧km l)(hp:ops[i]?=some p)(ho:ops[j]?=some o)(hal:nz p.op=true)(hdp:p.dst.isSome=true)(hst:ig o.op=false)(hld:jy o.op=false)
 (hpo:(match p.dst with|none=>true|some d=>!(Oper.looksAt ops o).contains d&&o.dst !=some d)=true) (hop:(match o.dst with|none=>true|some d=>!(Oper.looksAt ops p).contains d)=true)
 (h:bI E ops i (bI E ops j C) st):bI E ops j (bI E ops i C) st:=by
 obtain⟨l,hl,hg⟩:=hr
 cases hdst:p.dst with
 |none=>rw[hdst] at hdp;simp at hdp
 |some d=>
 have hpo1:∀t∈Oper.looksAt ops o,p.dst≠some t:=fun t ht e=>by
  rw[e] at hpo
  simp only[Bool.and_eq_true,Bool.not_eq_true'] at hpo
  have:=hpo.1
  simp[ht] at this
 have hpo2:o.dst≠some d:=fun e=>by
  rw[hdst] at hpo
  simp only[Bool.and_eq_true] at hpo
  have:=hpo.2
  simp[e] at this
 have hop1:∀t∈Oper.looksAt ops p,o.dst≠some t:=fun t ht e=>by
  rw[e] at hop
  simp[ht] at hop
 obtain⟨ty,hty⟩:∃ty,p.op= .alloc ty:=by
  cases hh:p.op<;>rw[hh] at hal<;>simp only[nz] at hal<;>first|exact⟨_,rfl⟩|(simp at hal;done)
 obtain⟨tl,ow,tk,gl,rv,tu⟩:=st
 simp only at hl;subst hl
 rw[lC hp] at h
 obtain⟨q,hq,h2,h3⟩:=h
 cases q with
 |true=>
  have h2:=h2 rfl
  rw[r9 hty] at h2
  simp only[iK] at h2
  obtain⟨z,hz,id,hi,hn,h2⟩:=h2
  rw[hdst] at hi h2
  have hi':lS d l=some id:=hi
  have hmem:=vM hi'
  rw[lC ho] at h2 ⊢
  obtain⟨q,hq2,h4,h5⟩:=h2
  have hlt:id<ow.length:=(List.getElem?_eq_some_iff.1 hn).1
  rw[mg (d:=some d) (fun t ht=>by rw[←hdst];exact hpo1 t ht)] at hq2
  have back:∀ow' tk' l' z',ow'[id]?=some none→(d,id)∈l'→km l'→C (St.put ((St.put ⟨tl,ow'.set id (some [.agg z]),tk',gl,some (dK id l'),tu⟩ (some d) (.ptr id 0 0))) o.dst z')→bI E ops i C (St.put ⟨tl,ow',tk',gl,some l',tu⟩ o.dst z'):=fun ow' tk' l' z' e1 e2 e3 hC=>by
   rw[lC hp]
   refine⟨true,by rw[mg hop1];exact hq,fun _=>?_,fun hq=>by simp at hq⟩
   rw[r9 hty]
   unfold iK
   simp only[dm.2.2.2]
   refine⟨z,hz,id,by rw[hdst];exact Ar e3.fst e2,by rw[dm.1];exact e1,?_⟩
   have e4:({ St.put ⟨tl,ow',tk',gl,some l',tu⟩ o.dst z' with own:=(St.put ⟨tl,ow',tk',gl,some l',tu⟩ o.dst z').own.set id (some [.agg z]),bT:=some (dK id l') }:St)=St.put ⟨tl,ow'.set id (some [.agg z]),tk',gl,some (dK id l'),tu⟩ o.dst z':=by
    cases o.dst<;>rfl
   rw[e4,hdst,put_comm (fun t h1 h2=>by simp only[Option.some.injEq] at h2;subst h2;exact hpo2 h1)]
   exact hC
  refine⟨q,hq2,fun e=>?_,fun e=>?_⟩
  ·exact DX hst hld (fun x hx=>by
    have:=nL (st:=⟨tl,ow.set id (some [.agg z]),tk,gl,some (dK id l),tu⟩) (d:=some d) (y:= .ptr id 0 0) (x:=x) (fun u hu=>by rw[←hdst];exact hpo1 u (nY (hu ▸ hx)))
    refine this.trans ?_
    cases x<;>rfl) hn hmem hg hpo2 (h4 e) (fun ow' tk' l' z' e1 e2 e3 hC=>back ow' tk' l' z' e1 e2 e3 hC)
  ·exact back ow tk l _ hn hmem hg (h5 e)
 |false=>
  have h3:=h3 rfl
  rw[lC ho] at h3 ⊢
  obtain⟨q,hq2,h4,h5⟩:=h3
  rw[mg hpo1] at hq2
  have hcm:∀{s:St} {y:AV},(s.put p.dst (.v undef)).put o.dst y=(s.put o.dst y).put p.dst (.v undef):=fun{s y}=>put_comm (fun t h1 h2=>by rw[hdst] at h1;simp only[Option.some.injEq] at h1;subst h1;exact hpo2 h2)
  refine⟨q,hq2,fun e=>?_,fun e=>?_⟩
  ·refine oY (fun x hx=>nL (fun u hu=>hpo1 u (nY (hu ▸ hx)))) dm.1 dm.2.1 dm.2.2.1 dm.2.2.2 (h4 e) (fun s' t' hc ha=>?_)
   obtain⟨z,e1,e2⟩:=ha.at'
   rw[wu] at e1
   rw[lC hp]
   refine⟨false,?_,fun hq=>by simp at hq,fun _=>?_⟩
   ·rw[e2,mg hop1];exact hq
   ·rw[e2,←hcm,←e1];exact hc
  ·rw[lC hp]
   refine⟨false,by rw[mg hop1];exact hq,fun hq=>by simp at hq,fun _=>?_⟩
   rw[←hcm];exact h5 e
theorem YC{i j:Nat}{p o:Oper}{C:St→Prop}{st:St}(hr:∃l,st.bT=some l∧km l)(hp:ops[i]?=some p)(ho:ops[j]?=some o)(hs:pX E.P ops p o=true)(h:bI E ops i (bI E ops j C) st):bI E ops j (bI E ops i C) st:=by
 unfold pX at hs
 simp only[Bool.and_eq_true,Bool.or_eq_true,Bool.not_eq_true'] at hs
 obtain⟨⟨hs,hpo⟩,hop⟩:=hs
 rcases hs with⟨⟨h1,h2⟩,h3⟩|⟨⟨⟨h1,h2⟩,h3⟩,h4⟩
 ·exact YB hp ho h1 h2 (by rcases h3 with h3|h3<;>simp[h3]) (by revert hpo;cases p.dst<;>simp) (by revert hop;cases o.dst<;>simp) h
 ·exact YA hr hp ho h1 h2 h3 h4 (by revert hpo;cases p.dst<;>simp) (by revert hop;cases o.dst<;>simp) h
def jO(anc:List (List Nat))(L:Array Bool):Prop:=∀m,L.getD m false=true→∀p∈anc.getD m [],L.getD p false=true
theorem PT{L:Array Bool}{i m:Nat}(h:(L.setIfInBounds i true).getD m false=true):m=i∨L.getD m false=true:=by
 by_cases e:m=i
 ·exact .inl e
 ·refine .inr ?_
  rwa[getD_set_ne false (fun he=>e he.symm)] at h
theorem vk{L:Array Bool}{i m:Nat}(h:L.getD m false=true):(L.setIfInBounds i true).getD m false=true:=by
 by_cases e:i=m
 ·subst e
  simp only[Array.getD_eq_getD_getElem?] at h ⊢
  rw[Array.getElem?_setIfInBounds]
  rw[if_pos rfl]
  split
  ·rfl
  ·rename_i hh;rw[Array.getElem?_eq_none ab] at h;simp at h
 ·rwa[getD_set_ne false e]
theorem r8(hv:gD ops anc=true){L:Array Bool}(hw:jO anc L){o:Nat}(ho:o∈Region.ready .any ops L):∀p∈anc.getD o [],L.getD p false=true:=by
 intro p hp
 obtain⟨_,x,hx,hall⟩:=mem_ready.1 ho
 unfold gD at hv
 rw[List.all_eq_true] at hv
 have hlt:o<ops.size:=(Array.getElem?_eq_some_iff.1 hx).1
 have h1:=hv o (List.mem_range.2 hlt)
 rw[List.all_eq_true] at h1
 have h2:=h1 p hp
 simp only[hx,List.any_eq_true,Bool.and_eq_true,Bool.or_eq_true,beq_iff_eq] at h2
 obtain⟨e,he,hb,h3⟩:=h2
 have h4:=hall e (by simpa using he) hb
 rcases h3 with h3|h3
 ·rw[←h3];exact h4
 ·exact hw _ h4 p (by simpa using h3)
theorem jO.add(hv:gD ops anc=true){L:Array Bool}(hw:jO anc L){o:Nat}(ho:o∈Region.ready .any ops L):jO anc (L.setIfInBounds o true):=by
 intro m hm p hp
 rcases PT hm with rfl|hm
 ·exact vk (r8 hv hw ho p hp)
 ·exact vk (hw m hm p hp)
theorem Py(hv:gD ops anc=true){L:Array Bool}(hw:jO anc L){p o:Nat}(hf:nN E.P ops anc L p=true)(hp:p∈Region.ready .any ops L)(ho:o∈Region.ready .any ops L)(hne:o≠p):
 ∃x y,ops[p]?=some x∧ops[o]?=some y∧pX E.P ops x y=true:=by
 obtain⟨hpl,x,hx,_⟩:=mem_ready.1 hp
 obtain⟨hol,y,hy,_⟩:=mem_ready.1 ho
 refine⟨x,y,hx,hy,?_⟩
 unfold nN at hf
 simp only[hx,List.all_eq_true,List.mem_range,Bool.or_eq_true,beq_iff_eq] at hf
 have hlt:o<ops.size:=(Array.getElem?_eq_some_iff.1 hy).1
 have:=hf o hlt
 rcases this with((h|h)|h)|h
 ·exact absurd h hne
 ·rw[hol] at h;simp at h
 ·have:=r8 hv hw ho p (by simpa using h)
  have h2:L.getD p true=true:=by
   simp only[Array.getD_eq_getD_getElem?] at this ⊢
   cases hh:L[p]? with
   |none=>simp
   |some b=>simpa[hh] using this
  rw[hpl] at h2;simp at h2
 ·simpa[hy] using h
theorem Pt{L:Array Bool}{p o:Nat}(hf:nN E.P ops anc L p=true):nN E.P ops anc (L.setIfInBounds o true) p=true:=by
 unfold nN at *
 split at hf
 ·simp at hf
 ·rename_i x hx
  rw[List.all_eq_true] at *
  intro q hq
  have:=hf q hq
  simp only[Bool.or_eq_true] at this ⊢
  rcases this with((h|h)|h)|h
  ·exact .inl (.inl (.inl h))
  ·refine .inl (.inl (.inr ?_))
   by_cases e:o=q
   ·subst e
    simp only[Array.getD_eq_getD_getElem?] at h ⊢
    rw[Array.getElem?_setIfInBounds,if_pos rfl]
    split<;>simp
   ·rwa[getD_set_ne true e]
  ·exact .inl (.inr h)
  ·exact .inr h
theorem tj{L:Array Bool}{p o:Nat}(hp:p∈Region.ready .any ops L)(hne:p≠o):p∈Region.ready .any ops (L.setIfInBounds o true):=by
 obtain⟨h1,x,hx,h2⟩:=mem_ready.1 hp
 refine mem_ready.2 ⟨by rwa[getD_set_ne true (fun e=>hne e.symm)],x,hx,fun e he hb=>vk (h2 e he hb)⟩
theorem set_comm(L:Array Bool)(i j:Nat):(L.setIfInBounds i true).setIfInBounds j true=(L.setIfInBounds j true).setIfInBounds i true:=by
 apply Array.ext_getElem?
 intro k
 simp only[Array.getElem?_setIfInBounds,Array.size_setIfInBounds]
 split<;>split<;>(try split)<;>simp_all
def Good(st:St):Prop:=∃l,st.bT=some l∧km l
theorem zx{st:St}{d:Option Tmp}{x:AV}(h:Good st):Good (st.put d x):=by
 obtain⟨l,h1,h2⟩:=h;exact⟨l,by rw[dm.2.2.2];exact h1,h2⟩
theorem uD{i:Nat}{C:St→Prop}{st:St}(hg:Good st)(h:bI E ops i C st):bI E ops i (fun s=>C s∧Good s) st:=by
 cases ho:ops[i]? with
 |none=>
  have e:∀C':St→Prop,bI E ops i C' st=C' st:=fun C'=>by unfold bI;rw[ho]
  rw[e] at h ⊢
  exact⟨h,hg⟩
 |some o=>
  rw[lC ho] at h ⊢
  obtain⟨q,h1,h2,h3⟩:=h
  refine⟨q,h1,fun hq=>?_,fun hq=>⟨h3 hq,zx hg⟩⟩
  have h2:=h2 hq
  cases hal:nz o.op with
  |true=>
   obtain⟨ty,hty⟩:∃ty,o.op= .alloc ty:=by
    cases hh:o.op<;>rw[hh] at hal<;>simp only[nz] at hal<;>first|exact⟨_,rfl⟩|(simp at hal;done)
   rw[r9 hty] at h2 ⊢
   obtain⟨l,hl,hgl⟩:=hg
   have e:∀K':St→AV→Prop,iK E.P ty o.dst st K'=∃z,db E.P ty=some z∧∃i,qR o.dst l=some i∧st.own[i]?=some none∧K' { st with own:=st.own.set i (some [.agg z]),bT:=some (dK i l) } (.ptr i 0 0):=fun K'=>by unfold iK;rw[hl]
   rw[e] at h2 ⊢
   obtain⟨z,hz,id,hi,hn,hk⟩:=h2
   exact⟨z,hz,id,hi,hn,hk,zx ⟨_,rfl,hgl.drop id⟩⟩
  |false=>
   refine oY (fun _ _=>rfl) rfl rfl rfl rfl h2 (fun s' t' hc ha=>?_)
   obtain⟨z,e1,e2⟩:=ha.at'
   have e3:t'=s':=by rw[e2,←e1]
   rw[e3]
   refine⟨hc,?_⟩
   rcases ha.kE with hk|⟨ty,hty⟩
   ·obtain⟨l,hl,hgl⟩:=hg
    exact⟨l,hk.trans hl,hgl⟩
   ·rw[hty] at hal;simp[nz] at hal
theorem EW{i:Nat}{p o:Oper}{st:St}(hg:Good st)(hp:ops[i]?=some p)(hs:pX E.P ops p o=true)(h:bI E ops i (fun _=>False) st):False:=by
 rw[lC hp] at h
 obtain⟨q,h1,h2,h3⟩:=h
 cases q with
 |false=>exact h3 rfl
 |true=>
  have h2:=h2 rfl
  unfold pX at hs
  simp only[Bool.and_eq_true,Bool.or_eq_true] at hs
  rcases hs.1.1 with⟨⟨hl,hd⟩,_⟩|⟨⟨⟨hal,_⟩,_⟩,_⟩
  ·obtain⟨y,hy,_⟩:=qB hd _ ((pB hl).1 h2)
   exact hy
  ·obtain⟨ty,hty⟩:∃ty,p.op= .alloc ty:=by
    cases hh:p.op<;>rw[hh] at hal<;>simp only[nz] at hal<;>first|exact⟨_,rfl⟩|(simp at hal;done)
   rw[r9 hty] at h2
   obtain⟨l,hl,_⟩:=hg
   unfold iK at h2
   rw[hl] at h2
   simp only at h2
   obtain⟨_,_,_,_,_,h⟩:=h2
   exact h
theorem CW(hv:gD ops anc=true){p:Nat}:∀(n:Nat) (L:Array Bool) (st:St),Good st→jO anc L→nN E.P ops anc L p=true→p∈Region.ready .any ops L→
 bI E ops p (lr E ops K n (L.setIfInBounds p true)) st→lr E ops K (n+1) L st
 |n,L,st,hg,hw,hf,hp,h=>by
  refine⟨fun e=>(by rw[e] at hp;simp at hp),fun o ho=>?_⟩
  by_cases hne:o=p
  ·subst hne;exact h
  ·obtain⟨x,y,hx,hy,hs⟩:=Py (E:=E) hv hw hf hp ho hne
   have ho':=tj ho hne (o:=p)
   cases n with
   |zero=>
    exfalso
    have:∀st',lr E ops K 0 (L.setIfInBounds p true) st'→False:=fun st' h'=>by
     have:=h'.1
     rw[this] at ho';simp at ho'
    exact EW hg hx hs (h.mono (D:=fun _=>False) this)
   |succ m=>
    have h2:bI E ops p (bI E ops o (lr E ops K m ((L.setIfInBounds p true).setIfInBounds o true))) st:=h.mono fun s hs'=>hs'.2 o ho'
    have h3:=uD hg (YC hg hx hy hs h2)
    refine h3.mono fun s ⟨hs',hg'⟩=>?_
    rw[set_comm] at hs'
    exact CW hv m _ s hg' (hw.add hv ho) (Pt hf) (tj hp (fun e=>hne e.symm)) hs'
theorem ra(hv:gD ops anc=true):∀(x:cO) (b:Bool) (L:Array Bool) (n:Nat) (st:St),Good st→iC E.P ops anc b x L n=true→jO anc L→et E ops K x st→
 (b=true→lr E ops K n L st)∧(b=false→∀i∈x.alts,∃m,n=m+1∧bI E ops i (lr E ops K m (L.setIfInBounds i true)) st)
 |.done,b,L,n,st,hg,h,hw,ha=>by
  simp only[iC,Bool.and_eq_true,List.isEmpty_iff] at h
  refine⟨fun _=>?_,fun hb=>by rw[hb] at h;simp at h⟩
  cases n with
  |zero=>exact⟨h.2,ha⟩
  |succ n=>exact⟨fun _=>ha,fun i hi=>by rw[h.2] at hi;simp at hi⟩
 |.take i p,b,L,n,st,hg,h,hw,ha=>by
  simp only[iC,Bool.and_eq_true] at h
  refine⟨fun _=>?_,fun hb=>by rw[hb] at h;simp at h⟩
  cases n with
  |zero=>simp at h
  |succ n=>
   simp only[Bool.and_eq_true] at h
   obtain⟨_,⟨h1,h2⟩,h3⟩:=h
   have h1:i∈Region.ready .any ops L:=by simpa using h1
   refine CW hv n L st hg hw h2 h1 ?_
   exact bI.mono (uD hg ha) fun s ⟨hs,hg'⟩=>(ra hv p true _ n s hg' h3 (hw.add hv h1) hs).1 rfl
 |.fork p,b,L,n,st,hg,h,hw,ha=>by
  simp only[iC,Bool.and_eq_true,beq_iff_eq,Bool.not_eq_true',List.isEmpty_eq_false_iff] at h
  obtain⟨⟨⟨hb,h1⟩,h2⟩,h3⟩:=h
  refine⟨fun _=>?_,fun hb'=>by rw[hb'] at hb;simp at hb⟩
  have:=(ra hv p false L n st hg h3 hw ha).2 rfl
  obtain⟨i0,hi0⟩:=List.exists_mem_of_ne_nil _ h2
  obtain⟨n',rfl,_⟩:=this i0 hi0
  refine⟨fun e=>by rw[h1,e] at hi0;simp at hi0,fun i hi=>?_⟩
  obtain⟨m,e,hm⟩:=this i (by rw[h1];exact hi)
  have:m=n':=by omega
  subst this
  exact hm
 |.alt i p rest,b,L,n,st,hg,h,hw,ha=>by
  simp only[iC,Bool.and_eq_true,Bool.not_eq_true'] at h
  refine⟨fun hb=>by rw[hb] at h;simp at h,fun _=>?_⟩
  cases n with
  |zero=>simp at h
  |succ n=>
   simp only[Bool.and_eq_true] at h
   obtain⟨_,⟨h1,h2⟩,h3⟩:=h
   have h1:i∈Region.ready .any ops L:=by simpa using h1
   intro j hj
   simp only[cO.alts,List.mem_cons] at hj
   rcases hj with rfl|hj
   ·exact⟨n,rfl,bI.mono (uD hg ha.1) fun s ⟨hs,hg'⟩=>(ra hv p true _ n s hg' h2 (hw.add hv h1) hs).1 rfl⟩
   ·exact(ra hv rest false L (n+1) st hg h3 hw ha.2).2 rfl j hj
 |.ends,b,L,n,st,hg,h,hw,ha=>by
  simp only[iC,Bool.not_eq_true'] at h
  exact⟨fun hb=>by rw[hb] at h;simp at h,fun _ i hi=>by simp[cO.alts] at hi⟩
def iS:List Tmp→Nat→List (Tmp×Nat)
 |[],_=>[]
 |d::ds,n=>(d,n)::iS ds (n+1)
theorem og{t:Tmp}{i:Nat}:∀{ds:List Tmp} {n:Nat},(t,i)∈iS ds n→t∈ds∧n≤i∧i<n+ds.length
 |[],_,h=>by simp[iS] at h
 |d::ds,n,h=>by
  simp only[iS,List.mem_cons,Prod.mk.injEq] at h
  rcases h with⟨rfl,rfl⟩|h
  ·exact⟨List.mem_cons_self ..,Nat.le_refl _,by simp⟩
  ·obtain⟨h1,h2,h3⟩:=og h
   exact⟨List.mem_cons_of_mem _ h1,by omega,by simp;omega⟩
theorem zw:∀{ds:List Tmp} {n:Nat},ds.Nodup→km (iS ds n)
 |[],_,_=>⟨by simp[iS],by simp[iS]⟩
 |d::ds,n,h=>by
  have ih:=zw (ds:=ds) (n:=n+1) (List.nodup_cons.1 h).2
  have hd:=(List.nodup_cons.1 h).1
  refine⟨fun t i j h1 h2=>?_,fun t u i h1 h2=>?_⟩
  ·simp only[iS,List.mem_cons,Prod.mk.injEq] at h1 h2
   rcases h1 with⟨rfl,rfl⟩|h1<;>rcases h2 with⟨e,rfl⟩|h2
   ·rfl
   ·exact absurd (og h2).1 hd
   ·subst e;exact absurd (og h1).1 hd
   ·exact ih.fst t i j h1 h2
  ·simp only[iS,List.mem_cons,Prod.mk.injEq] at h1 h2
   rcases h1 with⟨rfl,rfl⟩|h1<;>rcases h2 with⟨rfl,e⟩|h2
   ·rfl
   ·have:=(og h2).2.1;omega
   ·have:=(og h1).2.1;omega
   ·exact ih.snd t u i h1 h2
def St.kE(st:St)(ds:List Tmp):St:={ st with own:=st.own++List.replicate ds.length none,bT:=some (iS ds st.own.length) }
def lx(K:St→Prop)(st:St):Prop:=K { st with bT:=none }
theorem aa.wB{id:Nat}{l:List Oper}{Q:Exit→St→Prop}{st:St}(x:cO)(anc:List (List Nat))(ds:List Tmp)(hm:E.P.follows .mixedOrders=true)
 (hx:(gD l.toArray anc&&iC E.P l.toArray anc true x (Array.replicate l.toArray.size false) l.toArray.size)=true) (hd:ds.Nodup) (h:et E l.toArray (lx (Q .normal)) x (st.kE ds)):aa E (.region id l.toArray true) Q st:=fun w0 im0 cx a w h0 hG r=>by
 simp only[Bool.and_eq_true] at hx
 have r':Rel w0 im0 cx st a w.drew:=⟨r.defers,r.size,r.tmps,r.below.drew,r.dc,r.dq,r.cr,r.bU,fun i g k es h1 h2=>let h3:=r.own i g k es h1 h2;⟨h3.new,h3.im,h3.aZ⟩,r.cM,r.tail,fun t T b h1 h2=>let h3:=r.tok t T b h1 h2;⟨h3.new,h3.room,h3.im,h3.aZ⟩,r.apart,r.dy,r.up,r.hole⟩
 have r2:=r'.BZ ds.length (l:=iS ds st.own.length) (fun d i hmem=>(og hmem).2)
 refine wp_region_any hm (rU h0 hG (K:=lx (Q .normal)) (fun a' w' hh=>?_) _ _ (st.kE ds) _ a _ r2 ?_)
 ·obtain⟨c',st',r3,hk⟩:=hh
  exact⟨c',{ st' with bT:=none },⟨r3.defers,r3.size,r3.tmps,r3.below,r3.dc,r3.dq,r3.cr,r3.bU,r3.own,r3.cM,r3.tail,r3.tok,r3.apart,r3.dy,r3.up,fun l d i e=>by cases e⟩,hk⟩
 ·refine(ra hx.1 x true _ _ _ ⟨_,rfl,zw hd⟩ hx.2 ?_ h).1 rfl
  intro m hm
  exfalso
  simp only[Array.getD_eq_getD_getElem?,Array.getElem?_replicate] at hm
  split at hm<;>simp at hm
end
end Go.az
end
