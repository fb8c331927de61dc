/- Texts of one chain, put together (Lj, Lr, Lt, Lx, G34, G35, G36). -/
import Derived.Test.YtajeeghgiilhiaaGreatKwL
import Derived.Lib.AppendZerosOnto
import Derived.Lib.Overlaps
import Derived.Test.YtajeeghgiilhiaaGreatKwK
import Derived.Test.YtajeeghgiilhiaaGreatKwJ
set_option linter.unusedVariables false
set_option linter.unusedSimpArgs false
set_option maxHeartbeats 16000000
set_option maxRecDepth 8000
section
namespace Go.Abs
open Go Go.RowKit
section
variable{P:Program}{w0:World}{im0:di}{c:Ctx}{st:St}{a:Act}{w:World}
theorem Oe(r:Rel w0 im0 c st a w){t tn ty e:TypeId}{k n':Nat}{kn kq:IntKind}(hai:cV P t=some (e,k,n'))(htn:P.underlying tn=some (.int kn)){id i cap q:Nat}{es:List AV}{v:Value}
 (hv:VR c (.mu id k 0 i cap) v) (ho:st.own[id]?=some (some es)) (hc:0<cap) (hie:i≤es.length) (hq:0<q) (hg:cap<i+q) (h62:i+q≤4611686018427387904) (hbt:(i+q)*n'≤140737488355328):
 ∃v' w' c' m,(Builtin.append_ #[t,tn] ty #[v,.int kq (q:Int)]).run P w= .ok v' w'∧Rel w0 im0 c' { st with own:=st.own++[some (es.take i++spare k (q+m))] } a w'∧VR c' (.mu st.own.length k 0 (i+q) (i+q+m)) v':=by
 obtain⟨hu,hs,hk0,ii,zv,hi,hz,hsize,hbytes,hzs⟩:=iX hai
 rcases hv.cP with⟨g,hb,hcap,hve⟩|⟨_,hz2,_⟩
 rotate_left
 ·omega
 have hown:=r.own id g k _ hb ho
 obtain⟨cs,ty',lo,hi2,hblk,hfr,hsz,hlv,hcell⟩:=hown.aV
 rw[Nat.zero_mul] at hve
 have hoc:cq c k es cs.toList:=⟨hlv,fun i e j x he hx=>by obtain⟨u,h1,h2⟩:=hcell i e j x he hx;exact⟨u,by simpa using h1,h2⟩⟩
 have hq':cs.toList.length=cs.size:=Array.length_toList
 have hmul:i*k≤es.length*k:=Nat.mul_le_mul_right _ hie
 have hol:(cs.toList.take (i*k)).length=i*k:=by rw[List.length_take,hq'];omega
 have hof:(Builtin.firstCells ii.size i (.slice (some ⟨g,0,none⟩) i cap)).run P w.drew= .ok (cs.toList.take (i*k)).toArray w.drew:=by
  rw[hsize]
  exact run_firstCells_some w.drew k i ⟨g,0,none⟩ i _ _ hol (fun j u hj=>by
   rw[fq,Nat.zero_add]
   rw[List.getElem?_take] at hj
   split at hj
   ·show w.cell? ⟨g,j,none⟩=some u
    simp only[World.cell?,hblk,Option.isSome_none,Bool.false_eq_true,if_false];simpa using hj
   ·simp at hj)
 have hbq:q*ii.bytes≤281474976710656:=by
  rw[hbytes]
  have:=Nat.mul_le_mul_right n' (show q≤i+q by omega)
  omega
 have hfit:Builtin.nextslicecap (i+q) cap*ii.bytes≤281474976710656:=growslice_fits hg (by rw[hbytes];exact hbt)
 have hrun:=Go.Lib.run_append_grow_zeros (P:=P) w t tn ty e ii zv kq kn hu htn hi hz (some ⟨g,0,none⟩) i cap _ hof q hq (by rw[hsize];exact hk0) hg (by omega) hbq hfit
 have hC:=grownCap_ge w (i+q) cap e
 refine⟨_,_,_,grownCap w (i+q) cap e-(i+q),by rw[hve];exact hrun,(r.pD (k:=k) (g:=w.heap.size) (es:=es.take i++spare k (q+(grownCap w (i+q) cap e-(i+q)))) (pW w _) (Nat.le_refl _) ⟨_,e,0,0,kK w.drew _,.inl rfl,?_,?_⟩).2,?_⟩
 ·simp only[Array.size_append,List.size_toArray,hol,nN,hzs,List.length_append,List.length_take,cA,Nat.min_eq_left hie,Nat.add_mul];omega
 ·have hcells:cq c k (es.take i++spare k (q+(grownCap w (i+q) cap e-(i+q)))) (cs.toList.take (i*k)++((Builtin.zeroCells zv.cells q).toList++(Builtin.zeroCells zv.cells (grownCap w (i+q) cap e-(i+q))).toList)):=
   (hoc.takeN i hie).append (by rw[hol,List.length_take,Nat.min_eq_left hie]) (cq.spare (by simp only[List.length_append,Array.length_toList,nN,hzs,Nat.add_mul];exact Nat.le_refl _))
  refine⟨hcells.1,fun i e j x he hx=>?_⟩
  obtain⟨u,h1,h2⟩:=hcells.2 i e j x he hx
  refine⟨u,?_,h2⟩
  rw[←Array.getElem?_toList]
  simpa using h1
 ·have:=VR.mu (c:={ c with β:=c.β++[some (w.heap.size,k)] }) (id:=st.own.length) (off:=0) (len:=i+q) (g:=w.heap.size) (k:=k) (cap:=grownCap w (i+q) cap e) (by show(c.β++[_])[_]?=_;rw[←r.bU];simp) hC
  rw[Nat.zero_mul] at this
  rw[show i+q+(grownCap w (i+q) cap e-(i+q))=grownCap w (i+q) cap e by omega]
  exact this
theorem Gf(r:Rel w0 im0 c st a w){t tx ty e:TypeId}{k n':Nat}(hai:cV P t=some (e,k,n')){id off len cap id2 o j cy m:Nat}{es es2:List AV}{v xv:Value}
 (hv:VR c (.mu id k off len cap) v) (hxv:VR c (.mu id2 k o j cy) xv) (ho:st.own[id]?=some (some es)) (ho2:st.own[id2]?=some (some es2)) (hm:Nat.min j len=m) (hfit:off+m≤es.length) (hoj:o+m≤es2.length) (hpos:0<len) (hposj:0<j)
 (hna:∀e∈(es2.drop o).take m,∀x∈e.leaves,x≠.any):
 ∃w',(Builtin.copy_ #[t,tx] ty #[v,xv]).run P w= .ok (goInt m) w'∧Rel w0 im0 c { st with own:=st.own.set id (some (es.take off++((es2.drop o).take m++es.drop (off+m)))) } a w':=by
 obtain⟨hu,hs,hk0,ii,zv,hi,hz,hsize,hbytes,hzs⟩:=iX hai
 rcases hv.cP with⟨g,hb,hcap,hve⟩|⟨hl0,_,_⟩
 rotate_left
 ·omega
 rcases hxv.cP with⟨g2,hb2,hcap2,hxe⟩|⟨hl0,_,_⟩
 rotate_left
 ·omega
 have hown:=r.own id g k _ hb ho
 obtain⟨cs,ty',lo,hi',hblk,hfr,hsz,hlv,hcell⟩:=hown.aV
 have hown2:=r.own id2 g2 k _ hb2 ho2
 obtain⟨ds,ty2,lo2,hi2,hblk2,hfr2,hsz2,hlv2,hcell2⟩:=hown2.aV
 have hoc:cq c k es cs.toList:=⟨hlv,fun i e j x he hx=>by obtain⟨u,h1,h2⟩:=hcell i e j x he hx;exact⟨u,by simpa using h1,h2⟩⟩
 have hoc2:cq c k es2 ds.toList:=⟨hlv2,fun i e j x he hx=>by obtain⟨u,h1,h2⟩:=hcell2 i e j x he hx;exact⟨u,by simpa using h1,h2⟩⟩
 have hq:cs.toList.length=cs.size:=Array.length_toList
 have hq2:ds.toList.length=ds.size:=Array.length_toList
 have hmul:(off+m)*k≤es.length*k:=Nat.mul_le_mul_right _ hfit
 have hmul2:(o+m)*k≤es2.length*k:=Nat.mul_le_mul_right _ hoj
 rw[Nat.add_mul] at hmul hmul2
 obtain⟨news,hnews⟩:∃news,news=(ds.toList.drop (o*k)).take (m*k):=⟨_,rfl⟩
 have hnl:news.length=m*k:=by rw[hnews,List.length_take,List.length_drop,hq2];omega
 have hone:∀u∈news,u.oneCell'=true:=by
  intro u hu'
  obtain⟨q,hq'⟩:=List.mem_iff_getElem?.1 hu'
  rw[hnews,List.getElem?_take] at hq'
  split at hq'
  ·rename_i hqlt
   rw[List.getElem?_drop] at hq'
   have hdm:=Nat.div_add_mod q k
   have hmod:=Nat.mod_lt q hk0
   have hdiv:q/k<m:=Nat.div_lt_of_lt_mul (by rw[Nat.mul_comm];exact hqlt)
   have hel:es2[o+q/k]?=some (es2[o+q/k]'(by omega)):=List.getElem?_eq_getElem (by omega)
   have hlen:=hlv2 _ _ hel
   have hlf:(es2[o+q/k]'(by omega)).leaves[q%k]?=some ((es2[o+q/k]'(by omega)).leaves[q%k]'(by omega)):=List.getElem?_eq_getElem (by omega)
   obtain⟨v2,e1,e2,e3⟩:=hcell2 _ _ _ _ hel hlf
   have hidx:(o+q/k)*k+q%k=o*k+q:=by
    rw[Nat.add_mul,Nat.mul_comm (q/k) k];omega
   rw[hidx] at e1
   have:u=v2:=by
    have h1:ds.toList[o*k+q]?=some v2:=by simpa using e1
    rw[h1] at hq';exact(Option.some.inj hq').symm
   subst this
   refine e3.resolve_left (hna _ ?_ _ (List.mem_of_getElem? hlf))
   refine List.mem_iff_getElem?.2 ⟨q/k,?_⟩
   rw[List.getElem?_take,if_pos hdiv,List.getElem?_drop];exact hel
  ·simp at hq'
 have hfro:∀o,o<cs.toList.length→¬(lo≤o∧o<hi'):=fun o h1 h2=>by
  have h1:o<cs.size:=by simpa using h1
  rcases hfr with h|h<;>omega
 have hcs:cs=cs.toList.toArray:=by simp
 have hfit2:off*k+0+news.length≤cs.toList.length:=by rw[hnl,hq];omega
 have hst:=ln (P:=P) g (off*k) ty' lo hi' news 0 cs.toList w (by rw[←hcs];exact hblk) hfro hfit2 hone
 rw[Nat.add_zero] at hst
 have hfirst:(Builtin.firstCells k m xv).run P w= .ok news.toArray w:=by
  rw[hxe]
  exact run_firstCells_some w k m ⟨g2,o*k,none⟩ j _ _ hnl (fun p u hp=>by
   rw[fq]
   rw[hnews,List.getElem?_take] at hp
   split at hp
   ·rw[List.getElem?_drop] at hp
    simp only[World.cell?,hblk2,Option.isSome_none,Bool.false_eq_true,if_false];simpa using hp
   ·simp at hp)
 have hlenx:(Builtin.lenOf xv).run P w= .ok j w:=by rw[hxe];simp[Builtin.lenOf]
 have hrun:(Builtin.copy_ #[t,tx] ty #[v,xv]).run P w= .ok (goInt m) (w.setRow g (cb cs.toList (off*k) news).toArray):=by
  have hso:=dz hs w
  subst hve
  simp only[Builtin.copy_,List.getElem?_toArray,List.getElem?_cons_zero,List.getElem?_cons_succ,Sem.run_bind,bT hu,Result.andThen_ok,hlenx,hso,hm,hfirst,hst,Sem.run_pure]
 have hcs'len:(cb cs.toList (off*k) news).length=cs.size:=by rw[gn];simp
 have hOC:cq c k (es.take off++((es2.drop o).take m++es.drop (off+m))) (cb cs.toList (off*k) news):=by
  have e1:cb cs.toList (off*k) news=cs.toList.take (off*k)++(news++cs.toList.drop ((off+m)*k)):=by
   apply List.ext_getElem?
   intro p
   have htl:(cs.toList.take (off*k)).length=off*k:=by rw[List.length_take,hq];omega
   rw[jD _ _ _ _ (by simpa using hfit2)]
   by_cases hp:p<off*k
   ·rw[if_neg (by omega),List.getElem?_append_left (by rw[htl];exact hp),List.getElem?_take,if_pos hp]
   ·rw[List.getElem?_append_right (by rw[htl];omega),htl]
    by_cases hp2:p<off*k+news.length
    ·rw[if_pos ⟨by omega,hp2⟩,List.getElem?_append_left (by omega)]
    ·rw[if_neg (by omega),List.getElem?_append_right (by omega),List.getElem?_drop,hnl,Nat.add_mul]
     congr 1;rw[hnl] at hp2;omega
  rw[e1]
  refine(hoc.takeN off (by omega)).append (by rw[List.length_take,List.length_take,hq,Nat.min_eq_left (show off≤es.length by omega)];omega) ?_
  rw[hnews]
  refine((hoc2.drop o).takeN m (by rw[List.length_drop];omega)).append (by rw[←hnews,hnl,List.length_take,List.length_drop,Nat.min_eq_left (by omega)]) (hoc.drop (off+m))
 have hnewlen:(es.take off++((es2.drop o).take m++es.drop (off+m))).length=es.length:=by simp only[List.length_append,List.length_take,List.length_drop];omega
 have hset:=r.lC (w':=w.setRow g (cb cs.toList (off*k) news).toArray) (es':=es.take off++((es2.drop o).take m++es.drop (off+m))) hb ho (fun b hne=>setRow_other w g b _ hne) (below_setRow r.below hown.new _)
  ⟨(cb cs.toList (off*k) news).toArray,ty',lo,hi',setRow_heap w g cs _ ty' (lo,hi') hblk,by
    rcases hfr with h|h
    ·exact .inl h
    ·exact .inr (by simpa[gn] using h),by
    rw[hnewlen];simp only[List.size_toArray,hcs'len];exact hsz,hOC.1,fun i e j x he hx=>by
    obtain⟨u,h1,h2⟩:=hOC.2 i e j x he hx
    exact⟨u,by simpa using h1,h2⟩⟩
 exact⟨_,hrun,hset⟩
theorem UC(r:Rel w0 im0 c st a w){t tR e:TypeId}{t0:Option Nat}{k id off len cap:Nat}{es xs:List AV}{v xv:Value}(hu:P.underlying t=some (.slice e))(hs:bC P e=some k)(hk:1<k)
 (hxv:VR c (.sl t0 k xs) xv) (hv:VR c (.mu id k off len cap) v) (ho:st.own[id]?=some (some es)) (hx0:xs≠[]) (hlen:0<len) (hoff:off<es.length):
 (Extern.SlicesOverlaps.overlaps #[t,t] #[tR] #[xv,v]).run P w= .ok (.bool false) w:=by
 rcases hv.cP with⟨g,hb,hcap,hve⟩|⟨hl0,_,_⟩
 rotate_left
 ·omega
 have hown:=r.own id g k _ hb ho
 obtain⟨cs,ty',lo,hi',hblk,hfr,hsz,hlv,hcell⟩:=hown.aV
 have hlh:lo=hi':=by rcases hfr with h|h<;>omega
 have hmul:(off+1)*k≤es.length*k:=Nat.mul_le_mul_right _ hoff
 rw[Nat.add_mul] at hmul
 have h:=hxv.fu
 cases h with
 |de=>exact absurd rfl hx0
 |sl _ _ b o cap2 cv hc2 hk2 hm2 h12 hv2=>
  obtain⟨x,xs',rfl⟩:∃x xs',xs=x::xs':=by cases xs with|nil=>exact absurd rfl hx0|cons x xs'=>exact⟨_,_,rfl⟩
  have hlx:=hk2 0 x rfl
  have him:=hm2 0 x 0 (x.leaves[0]'(by omega)) rfl (List.getElem?_eq_getElem (by omega))
  have hcell2:=r.cg _ _ _ him
  have hne:b≠g:=fun e=>by subst e;rw[hown.im] at him;simp at him
  obtain⟨ds,ty2,fr2,hblk2,hds⟩:∃ds ty2 fr2,w.heap[b]?=some (.cells ds ty2 fr2)∧ds.size≠0:=by
   unfold World.cell? at hcell2
   cases hbb:w.heap[b]? with
   |none=>simp[hbb] at hcell2
   |some ob=>
    cases ob with
    |cells ds ty2 fr2=>
     refine⟨ds,ty2,fr2,rfl,fun h0=>?_⟩
     have:ds= #[]:=Array.eq_empty_of_size_eq_zero h0
     subst this
     simp[hbb] at hcell2
    |_=>simp[hbb] at hcell2
  subst hve
  have hnb:(b !=g)=true:=by simpa using hne
  have hnb':(b==g)=false:=by simpa using hne
  have hsa:w.shape? b=some (ty2,ds.size):=by simp only[World.shape?,hblk2]
  have hsb:w.shape? g=some (ty',cs.size):=by simp only[World.shape?,hblk]
  have hfb:∀o,w.frozen? ⟨g,o,none⟩=false:=fun o=>by simp only[World.frozen?,hblk];subst hlh;simp
  obtain⟨n1,hn1⟩:∃n,ds.size=n+1:=⟨ds.size-1,by omega⟩
  obtain⟨n2,hn2⟩:∃n,cs.size=n+1:=⟨cs.size-1,by omega⟩
  rw[hn1] at hsa;rw[hn2] at hsb
  have hz:=dz hs
  change Sem.run P (α:=Value) (do
   let some t:=(#[t,t]:Array TypeId)[0]?|stuck "slices.overlaps: no parameter types"
   let .slice elem ←underlying t|stuck "slices.overlaps: slice type expected"
   let size ←sizeOf elem
   match(some ⟨b,o,none⟩:Option Addr),(some ⟨g,off*k,none⟩:Option Addr) with
   |some a,some b=>
    if(x::xs').length=0∨len=0∨size=0 then pure (Value.bool false)
    else if a.block !=b.block&&(←frozen a)&&(←frozen b) then unsupported .addressObserved
    else do
     if a.block !=b.block then do
      noView a;noView b
      if ←mayBeOne a b then return Value.bool ((←choose (.extern "sameAddr.stringBytes" 2))==1)
     pure (Value.bool (a.block==b.block&&a.off<b.off+len*size&&b.off<a.off+(x::xs').length*size))
   |_,_=>pure (Value.bool false)) w=_
  have hk0:¬k=0:=by omega
  have hl0:¬len=0:=by omega
  simp only[List.length_cons,Nat.succ_ne_zero,hl0,hk0,false_or,or_self,if_false]
  by_cases hfa:w.frozen? ⟨b,o,none⟩=true<;>by_cases hfe:w.frozen? ⟨b,n1+1,none⟩=true<;>
   simp[bT hu,hz,hnb,hnb',frozen,noView,viewAt,mayBeOne,stringish,shape,Sem.run,hsa,hsb,hfa,hfe,hfb]
end
section
variable{E:Env}{Q:Exit→St→Prop}{st:St}{ops:Array Oper}{l:List Oper}
theorem aj.Tn{dst:Option Tmp}{t tn ty:TypeId}{x y:Operand}{pos:String}{after:Array Edge}{e:TypeId}{k n id i cap q:Nat}{es:List AV}{kn kq:IntKind}
 (hai:cV E.P t=some (e,k,n)) (htn:E.P.underlying tn=some (.int kn)) (hx:st.ev x= .mu id k 0 i cap) (hy:st.ev y= .v (.int kq (q:Int))) (ho:st.own[id]?=some (some es)) (hc:0<cap) (hie:i≤es.length) (hq:0<q) (hg:cap<i+q) (h62:i+q≤4611686018427387904) (hbt:(i+q)*n≤140737488355328)
 (h:∀m,aj E ops l Q (St.put { st with own:=st.own++[some (es.take i++spare k (q+m))] } dst (.mu st.own.length k 0 (i+q) (i+q+m)))):aj E ops (⟨dst,.call ⟨.builtin .append,#[x,y],#[t,tn]⟩,ty,pos,after,none⟩::l) Q st:=by
 intro w0 im0 cx a w h0 hG r
 refine wpList_step (fun K' hK'=>?_)
 have hw:Region.wanted ⟨dst,.call ⟨.builtin .append,#[x,y],#[t,tn]⟩,ty,pos,after,none⟩ (yielded ops a.tmps)=true:=rfl
 rw[if_pos hw]
 have hv:=r.ev x
 rw[hx] at hv
 have ey:a.eval y= .int kq (q:Int):=by have:=r.ev y;rw[hy] at this;exact this.bt
 obtain⟨v',w',c',m,h1,h2,h3⟩:=Oe (P:=E.P) (ty:=ty) (kq:=kq) r hai htn hv ho hc hie hq hg h62 hbt
 refine eG (w':=w') (v:=v') ?_ (hK' _ _ (h m w0 im0 _ _ _ h0 hG (h2.put dst h3)))
 simp only[execOp,resolve,Sem.run_bind,Sem.run_pure,Result.andThen_ok,invoke,builtin,List.map_toArray,List.map_cons,List.map_nil,ey,h1]
theorem aj.Az{dst:Option Tmp}{t tx ty:TypeId}{x y:Operand}{pos:String}{after:Array Edge}{e:TypeId}{k n id off len cap id2 o j cy:Nat}(m:Nat){es es2:List AV}
 (hai:cV E.P t=some (e,k,n)) (hx:st.ev x= .mu id k off len cap) (hy:st.ev y= .mu id2 k o j cy) (ho:st.own[id]?=some (some es)) (ho2:st.own[id2]?=some (some es2)) (hm:Nat.min j len=m) (hfit:off+m≤es.length) (hoj:o+m≤es2.length) (hpos:0<len) (hposj:0<j)
 (hna:∀e∈(es2.drop o).take m,∀x∈e.leaves,x≠.any)
 (h:aj E ops l Q (St.put { st with own:=st.own.set id (some (es.take off++((es2.drop o).take m++es.drop (off+m)))) } dst (.v (goInt m)))):aj E ops (⟨dst,.call ⟨.builtin .copy,#[x,y],#[t,tx]⟩,ty,pos,after,none⟩::l) Q st:=by
 intro w0 im0 cx a w h0 hG r
 refine wpList_step (fun K' hK'=>?_)
 have hw:Region.wanted ⟨dst,.call ⟨.builtin .copy,#[x,y],#[t,tx]⟩,ty,pos,after,none⟩ (yielded ops a.tmps)=true:=rfl
 rw[if_pos hw]
 have hv:=r.ev x
 rw[hx] at hv
 have hvy:=r.ev y
 rw[hy] at hvy
 obtain⟨w',hrun,r2⟩:=Gf (P:=E.P) (tx:=tx) (ty:=ty) r hai hv hvy ho ho2 hm hfit hoj hpos hposj hna
 refine eG (w':=w') (v:=goInt m) ?_ (hK' _ _ (h w0 im0 _ _ _ h0 hG (r2.put dst (.base (.v _)))))
 simp[execOp,resolve,invoke,Sem.run_bind,builtin,hrun]
theorem aj.Is{dst:Option Tmp}{t ty:TypeId}{x hi:Operand}{pos:String}{after:Array Edge}{e:TypeId}{k id off len cap h':Nat}
 (hu:E.P.underlying t=some (.slice e)) (hsz:bC E.P e=some k) (hs:st.ev x= .mu id k off len cap) (hh:st.ev hi=i64 (h':Int)) (h2:h'≤cap) (h3:0<cap)
 (h:aj E ops l Q (st.put dst (.mu id k off h' cap))):aj E ops (⟨dst,.slice t x none (some hi) none,ty,pos,after,none⟩::l) Q st:=by
 intro w0 im0 cx a w h0' hG r
 refine wpList_step (fun K' hK'=>?_)
 have hw:Region.wanted ⟨dst,.slice t x none (some hi) none,ty,pos,after,none⟩ (yielded ops a.tmps)=true:=rfl
 rw[if_pos hw]
 have hv:=r.ev x
 rw[hs] at hv
 have e2:a.eval hi= .int .i64 (h':Int):=by have:=r.ev hi;rw[hh] at this;exact this.bt
 rcases hv.cP with⟨g,hb,hcap,hve⟩|⟨hz,hz2,_⟩
 rotate_left
 ·omega
 have hrun:(Instr.sliceAt t (a.eval x) none (some (a.eval hi)) none).run E.P w= .ok (.slice (some ⟨g,off*k,none⟩) h' cap) w:=by
  rw[e2,hve]
  have hbd:(Instr.sliceBounds true len cap none (some (.int .i64 (h':Int))) none).run E.P w= .ok (0,h',cap) w:=by
   have e1:∀code,(Instr.sliceBound (.int .i64 (h':Int)) cap code).run E.P w= .ok h' w:=fun code=>(jT (by omega) (by omega)).trans (by simp)
   simp[Instr.sliceBounds,Sem.run_bind,e1]
  simp only[Instr.sliceAt,Sem.run_bind,bT hu,Result.andThen_ok,Instr.slice,hbd,dz hsz,Sem.run_pure]
  have hne:¬cap=0:=by omega
  simp[hne,Addr.add]
 refine eG (w':=w) (v:= .slice (some ⟨g,off*k,none⟩) h' cap) ?_ (hK' _ _ (h w0 im0 _ _ _ h0' hG (r.put dst (.mu hb (by omega)))))
 simp only[execOp,Option.map_some,Option.map_none,Sem.run_bind,hrun,Result.andThen_ok,Sem.run_pure]
theorem aj.Qd{dst:Option Tmp}{t ty:TypeId}{x:Operand}{pos:String}{after:Array Edge}{e:TypeId}{k id off len cap:Nat}
 (hu:E.P.underlying t=some (.slice e)) (hs:st.ev x= .mu id k off len cap)
 (h:aj E ops l Q (st.put dst (i64 (cap:Int)))):aj E ops (⟨dst,.call ⟨.builtin .cap,#[x],#[t]⟩,ty,pos,after,none⟩::l) Q st:=by
 intro w0 im0 cx a w h0 hG r
 refine wpList_step (fun K' hK'=>?_)
 have hw:Region.wanted ⟨dst,.call ⟨.builtin .cap,#[x],#[t]⟩,ty,pos,after,none⟩ (yielded ops a.tmps)=true:=rfl
 rw[if_pos hw]
 have hv:=r.ev x
 rw[hs] at hv
 have hrun:(Builtin.cap_ #[t] ty #[a.eval x]).run E.P w= .ok (goInt cap) w:=by
  rcases hv.cP with⟨g,_,_,hve⟩|⟨_,hz2,hve⟩
  ·rw[hve];simp[Builtin.cap_,bT hu]
  ·subst hz2;rw[hve];simp[Builtin.cap_,bT hu]
 refine eG (w':=w) (v:=goInt cap) ?_ (hK' _ _ (h w0 im0 _ _ _ h0 hG (r.put dst (.base (.v _)))))
 simp[execOp,resolve,invoke,Sem.run_bind,builtin,hrun]
theorem aj.Vc{dst:Option Tmp}{t ty:TypeId}{x lo:Operand}{pos:String}{after:Array Edge}{e:TypeId}{k id off len cap l':Nat}
 (hu:E.P.underlying t=some (.slice e)) (hsz:bC E.P e=some k) (hs:st.ev x= .mu id k off len cap) (hl:st.ev lo=i64 (l':Int)) (h1:l'≤len)
 (h:aj E ops l Q (st.put dst .any)):aj E ops (⟨dst,.slice t x (some lo) none none,ty,pos,after,none⟩::l) Q st:=by
 intro w0 im0 cx a w h0' hG r
 refine wpList_step (fun K' hK'=>?_)
 have hw:Region.wanted ⟨dst,.slice t x (some lo) none none,ty,pos,after,none⟩ (yielded ops a.tmps)=true:=rfl
 rw[if_pos hw]
 have hv:=r.ev x
 rw[hs] at hv
 have e1:a.eval lo= .int .i64 (l':Int):=by have:=r.ev lo;rw[hl] at this;exact this.bt
 have hval:∃u,(Instr.sliceAt t (a.eval x) (some (a.eval lo)) none none).run E.P w= .ok u w:=by
  rw[e1]
  have key:∀(b:Option Addr) (len cap:Nat),l'≤len→∃u,(Instr.sliceAt t (.slice b len cap) (some (.int .i64 (l':Int))) none none).run E.P w= .ok u w:=by
   intro b len cap hm3
   refine⟨.slice (if cap=l' then b else b.map (·.add (l'*k))) (len-l') (cap-l'),?_⟩
   simp only[Instr.sliceAt,Sem.run_bind,bT hu,Result.andThen_ok,Instr.slice,Ci (P:=E.P) (w:=w) hm3,dz hsz,Sem.run_pure]
  rcases hv.cP with⟨g,hb,hcap,hve⟩|⟨hz,hz2,hve⟩
  ·rw[hve];exact key _ _ _ h1
  ·rw[hve];exact key _ _ _ (by omega)
 obtain⟨u,hrun⟩:=hval
 refine eG (w':=w) (v:=u) ?_ (hK' _ _ (h w0 im0 _ _ _ h0' hG (r.put dst (.base (.any _)))))
 simp only[execOp,Option.map_some,Option.map_none,Sem.run_bind,hrun,Result.andThen_ok,Sem.run_pure]
theorem aj.Oj{dst:Option Tmp}{t tR ty:TypeId}{x y:Operand}{tys:Array TypeId}{pos:String}{after:Array Edge}{g:FuncId}{e:TypeId}{t0:Option Nat}{k id off len cap:Nat}{es xs:List AV}
 (hcf:∀(v u:Value) (w:World),(Extern.SlicesOverlaps.overlaps #[t,t] #[tR] #[v,u]).run E.P w= .ok (.bool false) w→(callFunc g #[v,u]).run E.P w= .ok (.value (.bool false)) w)
 (hu:E.P.underlying t=some (.slice e)) (hs:bC E.P e=some k) (hk:1<k) (hx:st.ev x= .sl t0 k xs) (hy:st.ev y= .mu id k off len cap) (ho:st.own[id]?=some (some es)) (hx0:xs≠[]) (hlen:0<len) (hoff:off<es.length)
 (h:aj E ops l Q (st.put dst (.v (.bool false)))):aj E ops (⟨dst,.call ⟨.value (.func g),#[x,y],tys⟩,ty,pos,after,none⟩::l) Q st:=by
 intro w0 im0 cx a w h0 hG r
 refine wpList_step (fun K' hK'=>?_)
 have hw:Region.wanted ⟨dst,.call ⟨.value (.func g),#[x,y],tys⟩,ty,pos,after,none⟩ (yielded ops a.tmps)=true:=rfl
 rw[if_pos hw]
 have hxv:=r.ev x
 rw[hx] at hxv
 have hyv:=r.ev y
 rw[hy] at hyv
 have hrun:=UC (P:=E.P) (tR:=tR) r hu hs hk hxv hyv ho hx0 hlen hoff
 have hc:=hcf _ _ w hrun
 refine eG (w':=w) (v:= .bool false) ?_ (hK' _ _ (h w0 im0 _ _ _ h0 hG (r.put dst (.base (.v _)))))
 have he':a.eval (.func g)= .func (.func g) #[] #[]:=rfl
 have hargs:Array.map a.eval #[x,y]= #[a.eval x,a.eval y]:=by simp
 simp only[execOp,resolve,he',Deferred.ofValue,Sem.run_bind,Sem.run_pure,Result.andThen_ok,invoke,Array.empty_append,Array.append_empty,hargs,hc]
end
theorem FW{P:Program}{o:Oper}{a:Act}{w:World}{K K':Act→World→Prop}{Q Q':Exit→Act→World→Prop}(h:∀a w,K a w→K' a w)(hp:∀c a w,Q (.panic c) a w→Q' (.panic c) a w)(hl:LetsOut Q→LetsOut Q')
 (hh:o.wp P a w K Q):o.wp P a w K' Q':=by
 unfold Oper.wp at *
 generalize (execOp a.eval o).run P w=r at *
 cases r with
 |ok n w'=>
  cases n<;>simp only[Oper.upon] at hh ⊢ <;>
   first
    |exact h _ _ hh
    |exact Calls.mono hh (fun e w'' he=>by cases e<;>first|exact h _ _ he|exact hp _ _ _ he|exact hl he)
    |exact Rows.mono hh (fun _ _ he=>h _ _ he)
 |halt x w'=>cases x<;>simp only[Oper.upon] at hh ⊢ <;>first|exact hp _ _ _ hh|exact hh
def b8(E:Env)(ops:Array Oper)(o:Oper)(s s':St):Prop:=∀Q:Exit→St→Prop,Q .normal s'→aj E ops [o] Q s
theorem b8.list{E:Env}{ops:Array Oper}{o:Oper}{s s':St}(h:ct E ops [o] s fun z=>z=s'):b8 E ops o s s':=fun Q hQ=>by
 obtain⟨q,hq,h1,h2⟩:=h
 refine aj.of ⟨q,hq,fun e=>nV (h1 e) fun z hz=>?_,fun e=>?_⟩
 ·have hz:z=s':=hz
  subst hz;exact hQ
 ·have hz:s.put o.dst (.v undef)=s':=h2 e
  show Q .normal _
  rw[hz];exact hQ
theorem b8.call{E:Env}{ops:Array Oper}{o:Oper}{s s':St}(h:∀Q:Exit→St→Prop,aj E ops [] Q s'→aj E ops [o] Q s):b8 E ops o s s':=fun Q hQ=>h Q (aj.of hQ)
def cI:List (Option Tmp)→Nat→Tmp→Option Nat
 |[],_,_=>none
 |d::r,i,t=>if d=some t then some i else cI r (i+1) t
def gd(ds:List (Option Tmp))(vals:List AV)(L:Nat→Bool)(t:Nat)(x:AV):AV:=match cI ds 0 t with|some i=>if L i then vals.getD i .any else x|none=>x
def oD(ds:List (Option Tmp))(vals:List AV)(anc:List (List Nat))(i:Nat)(st:St)(t:Tmp):AV:=match cI ds 0 t with|some j=>if(anc.getD i []).contains j then vals.getD j .any else st.tmps.getD t .any|none=>st.tmps.getD t .any
def iz(L:Nat→Bool)(i:Nat):Nat→Bool:=fun j=>if j=i then true else L j
def ef(ds:List (Option Tmp))(vals:List AV)(cs:List Nat)(ow:Nat→List (Option (List AV)))(st:St)(L:Nat→Bool):St:={ st with tmps:=st.tmps.mapIdx (gd ds vals L),own:=ow (cs.countP L) }
def dstsOf(ops:Array Oper):List (Option Tmp):=ops.toList.map (·.dst)
def xl(ops:Array Oper)(anc:List (List Nat))(cs:List Nat):Bool:=
 gg ops anc&&(List.range ops.size).all (fun i=>match ops[i]? with
  |none=>false
  |some o=>o.dst.isSome&&(match o.dst with|some d=>cI (dstsOf ops) 0 d==some i|none=>true)&&o.after.toList.all (fun e=>!Region.binds .any e||decide (e.on<i)) &&
   (Oper.looksAt ops o).all (fun t=>match cI (dstsOf ops) 0 t with|some j=>(anc.getD i []).contains j||(anc.getD j []).contains i|none=>true)) &&
 (List.range cs.length).all (fun k=>(List.range k).all fun j=>(anc.getD (cs.getD k 0) []).contains (cs.getD j 0))&&decide cs.Nodup&&cs.all (fun i=>decide (i<ops.size))
section
variable{E:Env}{ops:Array Oper}{anc:List (List Nat)}{cs:List Nat}{ow:Nat→List (Option (List AV))}{vals:List AV}{st:St}
theorem UR{L:Nat→Bool}{t:Tmp}{i:Nat}(h:∀j,cI (dstsOf ops) 0 t=some j→L j=(anc.getD i []).contains j):(ef (dstsOf ops) vals cs ow st L).tmps.getD t .any=if t<st.tmps.length then oD (dstsOf ops) vals anc i st t else .any:=by
 simp only[ef,List.getD_eq_getElem?_getD,List.getElem?_mapIdx]
 by_cases ht:t<st.tmps.length
 ·rw[if_pos ht,List.getElem?_eq_getElem ht]
  simp only[Option.map_some,Option.getD_some,gd,oD]
  cases hl:cI (dstsOf ops) 0 t with
  |none=>simp[List.getD_eq_getElem?_getD,List.getElem?_eq_getElem ht]
  |some j=>
   simp only[h j hl]
   split<;>simp_all[List.getD_eq_getElem?_getD,List.getElem?_eq_getElem ht]
 ·rw[if_neg ht,List.getElem?_eq_none (Nat.le_of_not_lt ht)]
  rfl
theorem TT{L:Nat→Bool}{i:Nat}(h:i∉cs):cs.countP (iz L i)=cs.countP L:=by
 apply List.countP_congr
 intro j hj
 have:j≠i:=fun e=>h (e ▸ hj)
 simp[iz,this]
theorem VA{L:Nat→Bool}{i:Nat}{d:Tmp}(h:cI (dstsOf ops) 0 d=some i):(st.tmps.mapIdx (gd (dstsOf ops) vals L)).set d (vals.getD i .any)=st.tmps.mapIdx (gd (dstsOf ops) vals (iz L i))∨¬(∀t,cI (dstsOf ops) 0 t=some i→t=d):=by
 by_cases hu:∀t,cI (dstsOf ops) 0 t=some i→t=d
 ·left
  apply List.ext_getElem?
  intro t
  rw[List.getElem?_set]
  simp only[List.getElem?_mapIdx,List.length_mapIdx]
  by_cases htd:d=t
  ·subst htd
   rw[if_pos rfl]
   by_cases hd:d<st.tmps.length
   ·simp[hd,gd,h,iz]
   ·simp[hd]
  ·rw[if_neg htd]
   cases hx:st.tmps[t]? with
   |none=>rfl
   |some x=>
    simp only[Option.map_some,Option.some.injEq,gd]
    cases hl:cI (dstsOf ops) 0 t with
    |none=>rfl
    |some j=>
     have:j≠i:=fun e=>htd (hu t (e ▸ hl)).symm
     simp[iz,this]
 ·exact .inr hu
theorem tv:∀{ds:List (Option Tmp)} {k t i:Nat},cI ds k t=some i→∃j,i=k+j∧ds[j]?=some (some t)
 |[],_,_,_,h=>by simp[cI] at h
 |d::r,k,t,i,h=>by
  unfold cI at h
  split at h
  ·rename_i e
   simp only[Option.some.injEq] at h
   exact⟨0,by omega,by simp[e]⟩
  ·obtain⟨j,e1,e2⟩:=tv h
   exact⟨j+1,by omega,by simpa using e2⟩
theorem W9{ds:List (Option Tmp)}{t i:Nat}(h:cI ds 0 t=some i):i<ds.length:=by
 obtain⟨j,e1,e2⟩:=tv h
 have:=(List.getElem?_eq_some_iff.1 e2).1
 omega
theorem Gj{L:Nat→Bool}(hl:(dstsOf ops).length=vals.length){p:AV→Bool}(h1:st.tmps.all p=true)(h2:vals.all p=true):(ef (dstsOf ops) vals cs ow st L).tmps.all p=true:=by
 rw[List.all_eq_true] at *
 intro x hx
 obtain⟨t,ht⟩:=List.mem_iff_getElem?.1 hx
 simp only[ef,List.getElem?_mapIdx] at ht
 cases hy:st.tmps[t]? with
 |none=>rw[hy] at ht;simp at ht
 |some y=>
  rw[hy] at ht
  simp only[Option.map_some,Option.some.injEq] at ht
  have hy2:=h1 y (List.mem_of_getElem? hy)
  rw[←ht]
  unfold gd
  cases hk:cI (dstsOf ops) 0 t with
  |none=>exact hy2
  |some i=>
   simp only[]
   split
   ·have hi:i<vals.length:=by rw[←hl];exact W9 hk
    have:vals.getD i .any∈vals:=List.mem_iff_getElem?.2 ⟨i,by simp[List.getD_eq_getElem?_getD,List.getElem?_eq_getElem hi]⟩
    exact h2 _ this
   ·exact hy2
theorem Tq{w0:World}{im0:di}(h0:E.ok w0)(hG:kA E im0){Q:Exit→St→Prop}(hv:gg ops anc=true)
 (hlt:∀(i:Nat) (o:Oper),ops[i]?=some o→∀e∈o.after,Region.binds .any e=true→e.on<i)
 (hstep:∀(i:Nat) (o:Oper),ops[i]?=some o→∀L:Nat→Bool,L i=false→(∀p∈anc.getD i [],L p=true)→(∀m,L m=true→∀p∈anc.getD m [],L p=true)→b8 E ops o (ef (dstsOf ops) vals cs ow st L) (ef (dstsOf ops) vals cs ow st (iz L i)))
 (hQ:∀L:Nat→Bool,(∀i,i<ops.size→L i=true)→Q .normal (ef (dstsOf ops) vals cs ow st L)):
 ∀(n:Nat) (L:Array Bool) (c:Ctx) (a:Act) (w:World),L.size=ops.size→L.toList.count false=n→jx anc L→Rel w0 im0 c (ef (dstsOf ops) vals cs ow st fun j=>L.getD j false) a w→
  wpAny E.P .any ops (fun e a w=>gN w0 im0 (Q e) a w) n L a w:=by
 have hall:∀L:Array Bool,L.size=ops.size→Region.ready .any ops L=[]→∀i,i<ops.size→L.getD i false=true:=by
  intro L hs hr i
  induction i using Nat.strongRecOn with
  |ind i ih=>
   intro hi
   cases hb:L.getD i false with
   |true=>rfl
   |false=>
    exfalso
    have:i∈Region.ready .any ops L:=by
     rw[mem_ready]
     refine⟨?_,ops[i],by simp[hi],fun e he hbd=>?_⟩
     ·have hi':i<L.size:=by omega
      simpa[Array.getD,hi'] using hb
     ·have:=hlt i ops[i] (by simp[hi]) e he hbd
      exact ih e.on this (by omega)
    rw[hr] at this;simp at this
 have hset:∀(L:Array Bool) (i:Nat),i<L.size→(fun j=>(L.setIfInBounds i true).getD j false)=iz (fun j=>L.getD j false) i:=by
  intro L i hi
  funext j
  simp only[iz,Array.getD_eq_getD_getElem?,Array.getElem?_setIfInBounds]
  by_cases hj:j=i
  ·subst hj;simp[hi]
  ·rw[if_neg (fun e=>hj e.symm),if_neg hj]
 intro n
 induction n with
 |zero=>
  intro L c a w hs hc hw r
  have hno:∀i,i<ops.size→L.getD i false=true:=by
   intro i hi
   have hi':i<L.size:=by omega
   have:=List.count_eq_zero.1 hc
   cases hb:L[i] with
   |true=>simp[Array.getD,hi',hb]
   |false=>exact absurd (List.mem_iff_getElem.2 ⟨i,by simpa using hi',by simpa using hb⟩) this
  refine⟨?_,⟨c,_,r,hQ _ hno⟩⟩
  cases hr:Region.ready .any ops L with
  |nil=>rfl
  |cons i rest=>
   exfalso
   have hi:i∈Region.ready .any ops L:=by rw[hr];exact List.mem_cons_self ..
   obtain⟨h1,o,ho,_⟩:=mem_ready.1 hi
   have hio:i<ops.size:=(Array.getElem?_eq_some_iff.1 ho).1
   have:=hno i hio
   have hi':i<L.size:=by omega
   simp only[Array.getD,hi',dite_true] at h1 this
   rw[h1] at this;simp at this
 |succ n ih=>
  intro L c a w hs hc hw r
  refine⟨fun hr=>⟨c,_,r,hQ _ (hall L hs hr)⟩,fun i hi=>?_⟩
  obtain⟨h1,o,ho,hedge⟩:=mem_ready.1 hi
  have hio:i<ops.size:=(Array.getElem?_eq_some_iff.1 ho).1
  have hi':i<L.size:=by omega
  have hLi:L.getD i false=false:=by simpa[Array.getD,hi'] using h1
  have hf:=hstep i o ho (fun j=>L.getD j false) hLi (pP hv hw hi) hw
  have hL2:=hset L i hi'
  rw[←hL2] at hf
  have hcount:(L.setIfInBounds i true).toList.count false=n:=by
   have hget:L.toList[i]'(by simpa using hi')=false:=by
    have:L[i]=false:=by simpa[Array.getD,hi'] using h1
    simpa using this
   rw[Array.toList_setIfInBounds,List.count_set (h:=by simpa using hi'),hc,hget]
   simp
  unfold wpOp
  rw[ho]
  simp only[]
  have hh:=hf (fun e z=>match e with|.normal=>z=ef (dstsOf ops) vals cs ow st (fun j=>(L.setIfInBounds i true).getD j false)|e=>Q e z) rfl w0 im0 c a w h0 hG r
  unfold wpList at hh
  have next:∀a' w',gN w0 im0 (fun z=>z=ef (dstsOf ops) vals cs ow st (fun j=>(L.setIfInBounds i true).getD j false)) a' w'→wpAny E.P .any ops (fun e a w=>gN w0 im0 (Q e) a w) n (L.setIfInBounds i true) a' w':=by
   rintro a' w' ⟨c',s,r',rfl⟩
   exact ih _ c' a' w' (by simpa using hs) hcount (hw.add hv hi) r'
  split at hh
  ·rename_i hwant
   rw[if_pos hwant]
   rcases hh with hh|⟨hh1,a',w',hh2⟩
   ·refine .inl (FW (fun a' w' hz=>next a' w' ?_) (fun _ _ _ h=>h) (fun⟨a',w',h⟩=>⟨a',w',h⟩) hh)
    exact hz
   ·exact .inr ⟨hh1,a',w',hh2⟩
  ·rename_i hwant
   rw[if_neg hwant]
   exact next _ _ hh
def gY:List (Option Tmp)→List AV→List AV→List AV
 |some d::ds,v::vs,ts=>gY ds vs (ts.set d v)
 |none::ds,_::vs,ts=>gY ds vs ts
 |_,_,ts=>ts
theorem ta:∀(ds:List (Option Tmp)) (k t:Nat),cI ds (k+1) t=(cI ds k t).map (· +1)
 |[],_,_=>rfl
 |d::r,k,t=>by
  unfold cI
  split
  ·rfl
  ·exact ta r (k+1) t
theorem xe:∀{ds:List (Option Tmp)} {k t:Nat},some t∉ds→cI ds k t=none
 |[],_,_,_=>rfl
 |d::r,k,t,h=>by
  simp only[List.mem_cons,not_or] at h
  unfold cI
  rw[if_neg (fun e=>h.1 e.symm)]
  exact xe h.2
theorem tZ:∀(ds:List (Option Tmp)) (vs ts:List AV) (t:Nat),ds.length=vs.length→(∀d,some d∈ds→ds.count (some d)≤1)→(gY ds vs ts)[t]?=(ts[t]?).map fun x=>gd ds vs (fun _=>true) t x
 |[],vs,ts,t,hl,hn=>by
  cases h:ts[t]?<;>simp[gY,gd,cI,h]
 |d::ds,[],ts,t,hl,hn=>by simp at hl
 |none::ds,v::vs,ts,t,hl,hn=>by
  have ih:=tZ ds vs ts t (by simpa using hl) (fun d hd=>by have:=hn d (List.mem_cons_of_mem _ hd);simpa[List.count_cons] using this)
  show(gY ds vs ts)[t]?=_
  rw[ih]
  congr 1
  funext x
  have e:cI (none::ds) 0 t=(cI ds 0 t).map (· +1):=by
   show(if none=some t then _ else cI ds (0+1) t)=_
   rw[if_neg (by simp),ta]
  unfold gd
  rw[e]
  cases cI ds 0 t<;>simp
 |some d::ds,v::vs,ts,t,hl,hn=>by
  have hnd:some d∉ds:=by
   have:=hn d (List.mem_cons_self ..)
   rw[List.count_cons_self] at this
   exact List.count_eq_zero.1 (by omega)
  have ih:=tZ ds vs (ts.set d v) t (by simpa using hl) (fun d' hd=>by
   have:=hn d' (List.mem_cons_of_mem _ hd)
   rw[List.count_cons] at this;omega)
  show(gY ds vs (ts.set d v))[t]?=_
  rw[ih,List.getElem?_set]
  by_cases htd:d=t
  ·subst htd
   have e:cI (some d::ds) 0 d=some 0:=by
    show(if some d=some d then _ else _)=_
    rw[if_pos rfl]
   by_cases hd:d<ts.length
   ·simp[hd,gd,e,xe hnd]
   ·simp[hd]
  ·have e:cI (some d::ds) 0 t=(cI ds 0 t).map (· +1):=by
    show(if some d=some t then _ else cI ds (0+1) t)=_
    rw[if_neg (by simpa using htd),ta]
   rw[if_neg htd]
   congr 1
   funext x
   unfold gd
   rw[e]
   cases cI ds 0 t<;>simp
theorem aa.pc{id:Nat}{Q:Exit→St→Prop}(anc:List (List Nat))(vals:List AV)(cs:List Nat)(ow:Nat→List (Option (List AV)))(hm:E.P.follows .mixedOrders=true)(hk:xl ops anc cs=true)(hvl:(dstsOf ops).length=vals.length)
 (hown:st.own=ow 0) (hrsv:st.bP=none)
 (hp:∀(i:Nat) (o:Oper),ops[i]?=some o→i∉cs→∀s:St,s.gl=st.gl→(∃k,s.own=ow k)→s.tk=st.tk→s.bP=none→(∀t∈Oper.looksAt ops o,s.tmps.getD t .any=if t<st.tmps.length then oD (dstsOf ops) vals anc i st t else .any)→b8 E ops o s (s.put o.dst (vals.getD i .any)))
 (hc:∀(k i:Nat) (o:Oper),cs[k]?=some i→ops[i]?=some o→∀s:St,s.gl=st.gl→s.own=ow k→s.tk=st.tk→s.bP=none→s.up=st.up→(∀p:AV→Bool,st.tmps.all p=true→vals.all p=true→s.tmps.all p=true)→(∀t∈Oper.looksAt ops o,s.tmps.getD t .any=if t<st.tmps.length then oD (dstsOf ops) vals anc i st t else .any)→b8 E ops o s (St.put { s with own:=ow (k+1) } o.dst (vals.getD i .any)))
 (h:Q .normal { st with tmps:=gY (dstsOf ops) vals st.tmps,own:=ow cs.length }):aa E (.region id ops true) Q st:=fun w0 im0 cx a w h0 hG r=>by
 have r':Rel w0 im0 cx st a w.drew:=⟨r.defers,r.size,r.tmps,r.below.drew,r.c0,r.dd,r.cg,r.bU,fun i g k es h1 h2=>let h3:=r.own i g k es h1 h2;⟨h3.new,h3.im,h3.aV⟩,r.cn,r.tail,fun t T b h1 h2=>let h3:=r.tok t T b h1 h2;⟨h3.new,h3.room,h3.im,h3.aV⟩,r.apart,r.dq,r.up,r.hole⟩
 simp only[xl,Bool.and_eq_true,List.all_eq_true,List.mem_range,decide_eq_true_eq] at hk
 obtain⟨⟨⟨⟨hv,hops⟩,hchain⟩,hnd⟩,hrange⟩:=hk
 have hop:∀(i:Nat) (o:Oper),ops[i]?=some o→∃d,o.dst=some d∧cI (dstsOf ops) 0 d=some i∧(∀e∈o.after,Region.binds .any e=true→e.on<i)∧∀t∈Oper.looksAt ops o,∀j,cI (dstsOf ops) 0 t=some j→j∈anc.getD i []∨i∈anc.getD j []:=by
  intro i o ho
  have hi:i<ops.size:=(Array.getElem?_eq_some_iff.1 ho).1
  have hh:=hops i hi
  rw[ho] at hh
  simp only[Bool.and_eq_true] at hh
  obtain⟨⟨⟨h1,h2⟩,h3⟩,h4⟩:=hh
  obtain⟨d,hd⟩:=Option.isSome_iff_exists.1 h1
  rw[hd] at h2
  refine⟨d,hd,by simpa using h2,fun e he hb=>?_,fun t ht j hj=>?_⟩
  ·have:=List.all_eq_true.1 h3 e (by simpa using he)
   rw[hb] at this;simpa using this
  ·have:=List.all_eq_true.1 h4 t ht
   rw[hj] at this;simpa using this
 have hdst:∀(t i:Nat),cI (dstsOf ops) 0 t=some i→∃o,ops[i]?=some o∧o.dst=some t:=by
  intro t i hl
  obtain⟨j,e1,e2⟩:=tv hl
  have:i=j:=by omega
  subst this
  unfold dstsOf at e2
  rw[List.getElem?_map] at e2
  cases ho:ops.toList[i]? with
  |none=>rw[ho] at e2;simp at e2
  |some o=>
   rw[ho] at e2
   exact⟨o,by simpa using ho,by simpa using e2⟩
 have huniq:∀(t d i:Nat) (o:Oper),ops[i]?=some o→o.dst=some d→cI (dstsOf ops) 0 t=some i→t=d:=by
  intro t d i o ho hd hl
  obtain⟨o',ho',hd'⟩:=hdst t i hl
  rw[ho] at ho'
  have:o=o':=Option.some.inj ho'
  subst this
  rw[hd] at hd'
  exact(Option.some.inj hd').symm
 have hzero:ef (dstsOf ops) vals cs ow st (fun j=>(Array.replicate ops.size false).getD j false)=st:=by
  have hf:(fun j=>(Array.replicate ops.size false).getD j false)=fun _=>false:=by
   funext j
   by_cases hj:j<ops.size<;>simp[Array.getD,hj]
  rw[hf]
  unfold ef
  have e1:st.tmps.mapIdx (gd (dstsOf ops) vals fun _=>false)=st.tmps:=by
   apply List.ext_getElem?
   intro t
   rw[List.getElem?_mapIdx]
   cases st.tmps[t]? with
   |none=>rfl
   |some x=>
    simp only[Option.map_some,Option.some.injEq,gd]
    cases cI (dstsOf ops) 0 t<;>simp
  have e2:cs.countP (fun _=>false)=0:=by rw[List.countP_eq_zero];simp
  rw[e1,e2,←hown]
 refine wp_region_any hm (Tq (ops:=ops) (anc:=anc) (cs:=cs) (ow:=ow) (vals:=vals) (st:=st) h0 hG hv (fun i o ho e he hb=>(hop i o ho).choose_spec.2.2.1 e he hb) ?_ ?_ ops.size _ cx a _ (by simp) (by simp) (by intro m hm;by_cases hj:m<ops.size<;>simp[Array.getD,hj] at hm) ?_)
 ·intro i o ho L hLi hanc hcl
  obtain⟨d,hd,hlk,_,hlooks⟩:=hop i o ho
  have hread:∀t∈Oper.looksAt ops o,(ef (dstsOf ops) vals cs ow st L).tmps.getD t .any=if t<st.tmps.length then oD (dstsOf ops) vals anc i st t else .any:=fun t ht=>UR fun j hj=>by
   by_cases hc:j∈anc.getD i []
   ·rw[hanc j hc];symm;simpa using hc
   ·have h2:=(hlooks t ht j hj).resolve_left hc
    have h3:L j=false:=by
     cases hb:L j with
     |false=>rfl
     |true=>have:=hcl j hb i h2;rw[hLi] at this;simp at this
    rw[h3];symm;simpa using hc
  have hput:=(VA (st:=st) (vals:=vals) (L:=L) hlk).resolve_right (fun hn=>hn fun t ht=>huniq t d i o ho hd ht)
  by_cases hic:i∈cs
  ·obtain⟨k,hk⟩:=List.mem_iff_getElem?.1 hic
   have hklt:=(List.getElem?_eq_some_iff.1 hk).1
   have hbefore:∀j,j<k→L (cs.getD j 0)=true:=fun j hj=>hanc _ (by
    have:=hchain k hklt j hj
    rw[show cs.getD k 0=i by simp[List.getD_eq_getElem?_getD,hk]] at this
    simpa using this)
   have hbehind:∀j,k<j→j<cs.length→L (cs.getD j 0)=false:=fun j hj hj2=>by
    cases hb:L (cs.getD j 0) with
    |false=>rfl
    |true=>
     have:=hcl _ hb i (by
      have:=hchain j hj2 k hj
      rw[show cs.getD k 0=i by simp[List.getD_eq_getElem?_getD,hk]] at this
      simpa using this)
     rw[hLi] at this;simp at this
   have hcnt:∀M:Nat→Bool,(∀j,j<k→M (cs.getD j 0)=true)→(∀j,k<j→j<cs.length→M (cs.getD j 0)=false)→cs.countP M=k+(if M i then 1 else 0):=by
    intro M h1 h2
    have hsplit:cs=cs.take k++i::cs.drop (k+1):=by
     have hd:=List.drop_eq_getElem_cons hklt
     rw[(List.getElem?_eq_some_iff.1 hk).2] at hd
     rw[←hd,List.take_append_drop]
    rw[hsplit,List.countP_append,List.countP_cons]
    have e1:(cs.take k).countP M=k:=by
     have:(cs.take k).countP M=(cs.take k).length:=List.countP_eq_length.2 fun x hx=>by
      obtain⟨j,hj⟩:=List.mem_iff_getElem?.1 hx
      rw[List.getElem?_take] at hj
      split at hj
      ·rename_i hjk
       have:=h1 j hjk
       rwa[show cs.getD j 0=x by simp[List.getD_eq_getElem?_getD,hj]] at this
      ·simp at hj
     rw[this,List.length_take];omega
    have e2:(cs.drop (k+1)).countP M=0:=List.countP_eq_zero.2 fun x hx=>by
     obtain⟨j,hj⟩:=List.mem_iff_getElem?.1 hx
     rw[List.getElem?_drop] at hj
     have hj2:k+1+j<cs.length:=(List.getElem?_eq_some_iff.1 hj).1
     have:=h2 (k+1+j) (by omega) hj2
     rw[show cs.getD (k+1+j) 0=x by simp[List.getD_eq_getElem?_getD,hj]] at this
     simp[this]
    rw[e1,e2];simp
   have c1:cs.countP L=k:=by rw[hcnt L hbefore hbehind,hLi];simp
   have hne:∀j,j≠k→j<cs.length→cs.getD j 0≠i:=fun j hj hj2 e=>hj (by
    have h3:cs[j]?=cs[k]?:=by
     rw[hk,←e,List.getElem?_eq_getElem hj2];simp[List.getD_eq_getElem?_getD,List.getElem?_eq_getElem hj2]
    exact((List.getElem?_inj hj2 hnd).1 h3))
   have c2:cs.countP (iz L i)=k+1:=by
    rw[hcnt (iz L i) (fun j hj=>by show(if _ then true else _)=true;rw[hbefore j hj];simp) (fun j hj hj2=>by show(if _ then true else _)=false;rw[if_neg (hne j (by omega) hj2),hbehind j hj hj2])]
    simp[iz]
   have:=hc k i o hk ho (ef (dstsOf ops) vals cs ow st L) rfl (by simp[ef,c1]) rfl hrsv rfl (fun p h1 h2=>Gj hvl h1 h2) hread
   rw[hd] at this
   have e:St.put { ef (dstsOf ops) vals cs ow st L with own:=ow (k+1) } (some d) (vals.getD i .any)=ef (dstsOf ops) vals cs ow st (iz L i):=by
    simp only[St.put,ef]
    rw[hput,c2]
   rw[←e]
   exact this
  ·have:=hp i o ho hic (ef (dstsOf ops) vals cs ow st L) rfl ⟨_,rfl⟩ rfl hrsv hread
   rw[hd] at this
   have e:St.put (ef (dstsOf ops) vals cs ow st L) (some d) (vals.getD i .any)=ef (dstsOf ops) vals cs ow st (iz L i):=by
    simp only[St.put,ef]
    rw[hput,TT hic]
   rw[←e]
   exact this
 ·intro L hL
  have e:ef (dstsOf ops) vals cs ow st L={ st with tmps:=gY (dstsOf ops) vals st.tmps,own:=ow cs.length }:=by
   unfold ef
   have e1:st.tmps.mapIdx (gd (dstsOf ops) vals L)=gY (dstsOf ops) vals st.tmps:=by
    apply List.ext_getElem?
    intro t
    rw[tZ _ _ _ _ hvl,List.getElem?_mapIdx]
    ·congr 1
     funext x
     unfold gd
     cases hl:cI (dstsOf ops) 0 t with
     |none=>rfl
     |some i=>
      obtain⟨o,ho,_⟩:=hdst t i hl
      simp[hL i (Array.getElem?_eq_some_iff.1 ho).1]
    ·intro d hd
     rcases Nat.lt_or_ge 1 ((dstsOf ops).count (some d)) with hcc|hcc
     ·exfalso
      have hidx:∀i o,ops[i]?=some o→o.dst=some d→cI (dstsOf ops) 0 d=some i:=fun i o ho hd'=>by
       obtain⟨d2,e2,e3,_⟩:=hop i o ho
       rw[hd'] at e2
       rw[Option.some.inj e2];exact e3
      have hdup:∃i j:Nat,i<j∧(dstsOf ops)[i]?=some (some d)∧(dstsOf ops)[j]?=some (some d):=by
       have key:∀l:List (Option Tmp),1<l.count (some d)→∃i j:Nat,i<j∧l[i]?=some (some d)∧l[j]?=some (some d):=by
        intro l
        induction l with
        |nil=>intro h;simp at h
        |cons y l ih=>
         intro h
         rw[List.count_cons] at h
         by_cases hy:y=some d
         ·subst hy
          simp only[beq_self_eq_true,if_true] at h
          have hm:some d∈l:=List.count_pos_iff.1 (by omega)
          obtain⟨j,hj⟩:=List.mem_iff_getElem?.1 hm
          exact⟨0,j+1,by omega,rfl,by simpa using hj⟩
         ·have:l.count (some d)>1:=by
           have hb:(y==some d)=false:=by simpa using hy
           rw[hb] at h;simpa using h
          obtain⟨i,j,hij,h1,h2⟩:=ih this
          exact⟨i+1,j+1,by omega,by simpa using h1,by simpa using h2⟩
       exact key _ hcc
      obtain⟨i,j,hij,h1,h2⟩:=hdup
      have get:∀k:Nat,(dstsOf ops)[k]?=some (some d)→cI (dstsOf ops) 0 d=some k:=fun k hk=>by
       unfold dstsOf at hk
       rw[List.getElem?_map] at hk
       cases ho:ops.toList[k]? with
       |none=>rw[ho] at hk;simp at hk
       |some o=>
        rw[ho] at hk
        exact hidx k o (by simpa using ho) (by simpa using hk)
      have e1:=get i h1
      have e2:=get j h2
      rw[e1] at e2
      have:=Option.some.inj e2
      omega
     ·exact hcc
   have e2:cs.countP L=cs.length:=List.countP_eq_length.2 fun x hx=>by
    obtain⟨k,hk⟩:=List.mem_iff_getElem?.1 hx
    exact hL x (hrange x hx)
   rw[e1,e2]
  rw[e];exact h
 ·rw[hzero];exact r'
end
section
variable{E:Env}{Q:Exit→St→Prop}{st:St}{ops:Array Oper}{l:List Oper}
end
theorem BU{no nt:Nat}:∀{own:List (Option (List AV))},(∀es,some es∈own→∀e∈es,∀z∈e.leaves,z.bF no nt=true)→gX no nt own own
 |[],_=>trivial
 |x::xs,h=>⟨.inr ⟨rfl,fun es e=>h es (by rw[e];exact List.mem_cons_self ..)⟩,BU fun es hes=>h es (List.mem_cons_of_mem _ hes)⟩
theorem cY:∀{tk:List Nat},iN tk tk
 |[]=>trivial
 |_::_=>⟨rfl,cY⟩
theorem AV.uA{no nt no' nt':Nat}(h1:no≤no')(h2:nt≤nt'){x:AV}(h:x.cU no nt=true):x.cU no' nt'=true:=by
 cases x with
 |sl t k es=>cases t with
  |none=>rfl
  |some t=>simp only[AV.cU,decide_eq_true_eq] at *;omega
 |mu=>simp only[AV.cU,decide_eq_true_eq] at *;omega
 |ptr=>simp only[AV.cU,decide_eq_true_eq] at *;omega
 |fn f cs=>cases cs<;>simp_all[AV.cU]
 |_=>simp_all[AV.cU]
theorem AV.Ax{no nt no' nt':Nat}(h1:no≤no')(h2:nt≤nt'){x:AV}(h:x.dY no nt=true):x.dY no' nt'=true:=by
 cases x with
 |agg cs=>simp only[AV.dY,List.all_eq_true] at *;exact fun y hy=>AV.uA h1 h2 (h y hy)
 |fn f cs=>simp only[AV.dY,List.all_eq_true] at *;exact fun y hy=>AV.uA h1 h2 (h y hy)
 |_=>simp only[AV.dY] at *;first|exact AV.uA h1 h2 h|rfl
theorem AV.PQ{no nt no' nt':Nat}(h1:no≤no')(h2:nt≤nt'){x:AV}(h:x.bF no nt=true):x.bF no' nt'=true:=by
 cases x with
 |ax cs=>simp only[AV.bF,List.all_eq_true] at *;exact fun y hy=>AV.Ax h1 h2 (h y hy)
 |_=>simp only[AV.bF] at *;exact AV.Ax h1 h2 h
def bm(own:List (Option (List AV)))(no nt:Nat):Prop:=∀es,some es∈own→∀e∈es,∀z∈e.leaves,z.bF no nt=true
theorem bm.mono{own:List (Option (List AV))}{no nt no' nt':Nat}(h:bm own no nt)(h1:no≤no')(h2:nt≤nt'):bm own no' nt':=fun es hes e he z hz=>AV.PQ h1 h2 (h es hes e he z hz)
theorem bm.app{own l:List (Option (List AV))}{no nt:Nat}(h:bm own no nt)(h2:bm l no nt):bm (own++l) no nt:=fun es hes=>(List.mem_append.1 hes).elim (h es) (h2 es)
theorem bm.set{own:List (Option (List AV))}{no nt id:Nat}{x:List AV}(h:bm own no nt)(h2:∀e∈x,∀z∈e.leaves,z.bF no nt=true):bm (own.set id (some x)) no nt:=fun es hes=>by
 rcases List.mem_or_eq_of_mem_set hes with hes|hes
 ·exact h es hes
 ·simp only[Option.some.injEq] at hes;subst hes;exact h2
theorem bm.nil{no nt:Nat}:bm [] no nt:=fun es hes=>by simp at hes
theorem bm.cons{own:List (Option (List AV))}{no nt:Nat}{x:Option (List AV)}(h:∀es,x=some es→∀e∈es,∀z∈e.leaves,z.bF no nt=true)(h2:bm own no nt):bm (x::own) no nt:=fun es hes=>by
 rcases List.mem_cons.1 hes with hes|hes
 ·exact h es hes.symm
 ·exact h2 es hes
theorem bm.wk{own:List (Option (List AV))}{no nt:Nat}(h:bm own no nt):gX no nt own own:=BU h
section
variable{α:Type}{own:List α}{a b c x:α}
end
theorem aj.wy{E:Env}{Q:Exit→St→Prop}{st:St}{ops:Array Oper}{l:List Oper}{dst:Option Tmp}{t tx ty:TypeId}{x y:Operand}{pos:String}{after:Array Edge}{e:TypeId}{k n id m0:Nat}{es xs:List AV}
 (hx:ek E.P tx=true) (hai:cV E.P t=some (e,k,n)) (hs:st.ev x= .mu id k 0 es.length (es.length+m0)) (hsrc:ib (st.ev y) k=some xs) (ho:st.own[id]?=some (some (es++spare k m0))) (h62:es.length+xs.length≤4611686018427387904) (hbt:(es.length+xs.length)*n≤140737488355328)
 (h:∀m,aj E ops l Q (St.put { st with own:=st.own.set id none++[some (es++xs++spare k m)] } dst (.mu st.own.length k 0 (es.length+xs.length) (es.length+xs.length+m)))):aj E ops (⟨dst,.call ⟨.builtin .append,#[x,y],#[t,tx]⟩,ty,pos,after,none⟩::l) Q st:=by
 intro w0 im0 cx a w h0 hG r
 refine wpList_step (fun K' hK'=>?_)
 have hw:Region.wanted ⟨dst,.call ⟨.builtin .append,#[x,y],#[t,tx]⟩,ty,pos,after,none⟩ (yielded ops a.tmps)=true:=rfl
 rw[if_pos hw]
 have hv:=r.ev x
 rw[hs] at hv
 have fin:∀(v':Value) (w':World) (c':Ctx) (m:Nat),(Builtin.append_ #[t,tx] ty #[a.eval x,a.eval y]).run E.P w= .ok v' w'→Rel w0 im0 c' { st with own:=st.own.set id none++[some (es++xs++spare k m)] } a w'→VR c' (.mu st.own.length k 0 (es.length+xs.length) (es.length+xs.length+m)) v'→
  Oper.wp E.P ⟨dst,.call ⟨.builtin .append,#[x,y],#[t,tx]⟩,ty,pos,after,none⟩ a w K' (fun e a' w'=>gN w0 im0 (Q e) a' w'):=fun v' w' c' m h1 h2 h3=>by
  refine eG (w':=w') (v:=v') ?_ (hK' _ _ (h m w0 im0 _ _ _ h0 hG (h2.put dst h3)))
  simp only[execOp,resolve,Sem.run_bind,Sem.run_pure,Result.andThen_ok,invoke,builtin,List.map_toArray,List.map_cons,List.map_nil,h1]
 by_cases hne:xs=[]
 ·subst hne
  obtain⟨hu,hss,hk0,i,zv,hi,hz,hsize,hbytes,hzs⟩:=iX hai
  obtain⟨news,hnl,hnc,hlen,hone,hfirst⟩:=nJ (P:=E.P) r (r.ev y) hk0 hsrc
  have hnews:news=[]:=List.eq_nil_of_length_eq_zero (by simpa using hnl)
  subst hnews
  have hrun:∀base (N C:Nat),N≤C→a.eval x= .slice base N C→(Builtin.append_ #[t,tx] ty #[a.eval x,a.eval y]).run E.P w= .ok (a.eval x) w:=fun base N C hNC hb=>by
   rw[hb]
   have:=ng (P:=E.P) (w:=w) (ty:=ty) (base:=base) (n:=N) (cap:=C) hu hss hx (hlen w) (hfirst w (fun _ _=>rfl)) (by simpa using hNC)
   rw[this]
   cases base<;>simp[storeCells]
  rcases hv.cP with⟨g,hb,hcap,he⟩|⟨hz1,hz2,he⟩
  ·obtain⟨hle,r2⟩:=r.tI hb ho
   refine fin _ w _ m0 (hrun _ _ _ (by omega) he) (by simpa using r2) ?_
   rw[he]
   exact .mu (by show(cx.β++[_])[_]?=_;rw[←r.bU];simp) (by simp)
  ·have hes:es=[]:=List.eq_nil_of_length_eq_zero hz1
   have hm0:m0=0:=by omega
   subst hes;subst hm0
   obtain⟨hle,r2⟩:=(r.lz id).rN
   exact fin _ w _ 0 (hrun _ _ _ (Nat.le_refl _) he) (by simpa[spare] using r2) (by rw[he];exact .jG)
 ·obtain⟨v',w',c',m,hr,hR,hV⟩:=vn (P:=E.P) (ty:=ty) r hx hai (r.ev y) hsrc hne (es:=es) (sp:=spare k m0) (by rw[cA];exact hv) ho h62 hbt
  exact fin v' w' c' m hr (by simpa using hR) (by simpa using hV)
end Go.Abs
end
section
namespace Go.Proofs.YtajeeghgiilhiaaGreat
open Go Go.Abs Go.RowKit Go.Bk
theorem LY(v u:Value)(w:World)(h:(Extern.SlicesOverlaps.overlaps #[56,56] #[4] #[v,u]).run E.P w= .ok (.bool false) w):(callFunc 191 #[v,u]).run E.P w= .ok (.value (.bool false)) w:=by
 show(callFunc 191 _).run Tryz.prog w=_
 rw[run_callFunc_extern Tryz.func191 (by kernel_rfl) (by kernel_rfl) (by kernel_rfl) (e:=Extern.SlicesOverlaps.overlaps #[56,56] #[4]) (by kernel_rfl)]
 have h:(Extern.SlicesOverlaps.overlaps #[56,56] #[4] #[v,u]).run Tryz.prog w= .ok (.bool false) w:=h
 rw[h];rfl
theorem pa(l:List Lm)(m:Nat):(l.map bd++spare 6 m).length=l.length+m:=by simp[cA]
theorem yf(l:List Lm)(p:Nat):∀e∈(l.map bd).drop p,∀x∈e.leaves,x≠.any:=by
 intro e he x hx
 obtain⟨o,_,rfl⟩:=List.mem_map.1 (List.mem_of_mem_drop he)
 simp only[AV.leaves,List.mem_cons,List.not_mem_nil,or_false] at hx
 rcases hx with rfl|rfl|rfl|rfl|rfl|rfl<;>simp
theorem ql{l:List Lm}{p m:Nat}(hp:p≤l.length):((l.map bd++spare 6 m).drop p).take (l.length-p)=(l.map bd).drop p:=by
 rw[List.drop_append_of_le_length (by simp;omega),List.take_left' (by simp)]
theorem qi(k m j:Nat):(spare k m).drop j=spare k (m-j):=by unfold spare;rw[List.drop_replicate]
def ky(l:List Lm)(x:Lm)(p m2:Nat):List AV:=(l.map bd).take p++([bd x]++(spare 6 (l.length+1-p+m2)).drop 1)
def lx(l:List Lm)(p m:Nat):List AV:=(l.map bd++spare 6 m).take (p+1)++((l.map bd).drop p++spare 6 (m-1))
def j6(l:List Lm)(x:Lm)(p m:Nat):List AV:=(l.take p++x::l.drop p).map bd++spare 6 m
theorem D5(l:List Lm)(x:Lm)(m:Nat):l.map bd++[bd x]++spare 6 m=j6 l x l.length m:=by unfold j6;simp
theorem Hi{l:List Lm}{x:Lm}{p m m2:Nat}(hp:p≤l.length):((l.map bd++spare 6 m).take p++spare 6 (l.length+1-p+m2)).take p++([bd x]++((l.map bd++spare 6 m).take p++spare 6 (l.length+1-p+m2)).drop (p+[bd x].length)) =
 ky l x p m2:=by
 unfold ky
 have e:(l.map bd++spare 6 m).take p=(l.map bd).take p:=List.take_append_of_le_length (by simp;omega)
 have hl:((l.map bd).take p).length=p:=by simp;omega
 rw[e,List.take_left' hl,List.length_singleton,←List.drop_drop,List.drop_left' hl]
theorem D6{l:List Lm}{x:Lm}{p m2:Nat}(hp:p≤l.length):(ky l x p m2).length=l.length+1+m2:=by
 unfold ky
 simp only[qi,List.length_append,List.length_take,List.length_map,List.length_singleton,cA];omega
theorem vL{l:List Lm}{x:Lm}{p:Nat}:(l.take p++x::l.drop p).map bd=(l.map bd).take p++([bd x]++(l.map bd).drop p):=by
 rw[List.map_append,List.map_cons,List.map_take,List.map_drop];rfl
theorem Vp{l:List Lm}{x:Lm}{p m m2:Nat}(hp:p≤l.length):(ky l x p m2).take (p+1)++(((l.map bd++spare 6 m).drop p).take (l.length-p)++(ky l x p m2).drop (p+1+(l.length-p)))=j6 l x p m2:=by
 unfold ky j6
 have hl:((l.map bd).take p++[bd x]).length=p+1:=by simp;omega
 rw[ql hp,←List.append_assoc ((l.map bd).take p) [bd x] _,List.take_left' hl,←List.drop_drop,List.drop_left' hl,vL,qi,qi,show l.length+1-p+m2-1-(l.length-p)=m2 by omega]
 simp only[List.append_assoc]
theorem EG{l:List Lm}{p m:Nat}(hp:p≤l.length)(hm:1≤m):(l.map bd++spare 6 m).take (p+1)++(((l.map bd++spare 6 m).drop p).take (l.length-p)++(l.map bd++spare 6 m).drop (p+1+(l.length-p)))=lx l p m:=by
 unfold lx
 rw[ql hp,show p+1+(l.length-p)=l.length+1 by omega,←List.drop_drop,List.drop_left' (by simp),qi]
theorem H2{l:List Lm}{p m:Nat}(hp:p≤l.length)(hm:1≤m):(lx l p m).length=l.length+m:=by
 unfold lx
 simp only[List.length_append,List.length_take,List.length_map,List.length_drop,cA];omega
theorem Mf{l:List Lm}{x:Lm}{p m:Nat}(hp:p≤l.length)(hm:1≤m):(lx l p m).take p++([bd x]++(lx l p m).drop (p+[bd x].length))=j6 l x p (m-1):=by
 unfold lx j6
 have hl:((l.map bd++spare 6 m).take (p+1)).length=p+1:=by simp[cA];omega
 rw[List.length_singleton,List.drop_left' hl,List.take_append_of_le_length (by omega),List.take_take,Nat.min_eq_left (by omega),List.take_append_of_le_length (by simp;omega),vL]
 simp only[List.append_assoc]
set_option maxRecDepth 100000 in
theorem Sz{ops:Array Oper}{l0:List Oper}{Q:Exit→St→Prop}{tmps up:List AV}{gl:Nat→Option (List AV)}{own:List (Option (List AV))}{tk:List Nat}{dst:Option Tmp}{x0 x1 x2:Operand}{tys:Array TypeId}{ty:TypeId}{pos:String}{after:Array Edge}{id p m:Nat}{t0:Option Nat}{l:List Lm}{x:Lm}
 (hx0:St.ev ⟨tmps,own,tk,gl,none,up⟩ x0= .mu id 6 0 l.length (l.length+m)) (hx1:St.ev ⟨tmps,own,tk,gl,none,up⟩ x1=i64 (p:Int)) (hx2:St.ev ⟨tmps,own,tk,gl,none,up⟩ x2= .sl t0 6 [bd x]) (ho:own[id]?=some (some (l.map bd++spare 6 m))) (hp:p≤l.length) (hl:l.length≤1000)
 (h:∀(own':List (Option (List AV))) (id' m':Nat),own'[id']?=some (some (j6 l x p m'))→aj E ops l0 Q (St.put ⟨tmps,own',tk,gl,none,up⟩ dst (.mu id' 6 0 (l.length+1) (l.length+1+m')))):
 aj E ops (⟨dst,.call ⟨.value (.func 149),#[x0,x1,x2],tys⟩,ty,pos,after,none⟩::l0) Q ⟨tmps,own,tk,gl,none,up⟩:=by
 refine aj.call (caps:=[]) (rs:=[.tmp 6]) Tryz.func149 rfl Tryz.ntmps149 rfl (by kernel_rfl) rfl rfl ?_
 show aa E _ _ ⟨([St.ev _ x0,St.ev _ x1,St.ev _ x2]++[])++List.replicate (95-3) (.v undef),own,tk,gl,none,tmps++up⟩
 rw[hx0,hx1,hx2]
 have hB0:∀(tm:List AV) (own':List (Option (List AV))) (id' m':Nat),tm[6]?=some (.mu id' 6 0 (l.length+1) (l.length+1+m'))→own'[id']?=some (some (j6 l x p m'))→bG E.P [.tmp 6] ⟨tmps,own,tk,gl,none,up⟩ (fun s z=>aj E ops l0 Q (s.put dst z)) .ret ⟨tm,own',tk,gl,none,tmps++up⟩:=by
  intro tm own' id' m' hu ho'
  refine⟨rfl,?_⟩
  have gu:∀ow,St.ev ⟨tm,ow,tk,gl,none,tmps++up⟩ (.tmp 6)= .mu id' 6 0 (l.length+1) (l.length+1+m'):=fun ow=>by simp[St.ev,List.getD_eq_getElem?_getD,hu]
  show aj E ops l0 Q (St.put _ dst (gI [St.ev _ (.tmp 6)]))
  rw[gu]
  exact h own' id' m' ho'
 generalize bG E.P [.tmp 6] ⟨tmps,own,tk,gl,none,up⟩ (fun s z=>aj E ops l0 Q (s.put dst z))=Q' at hB0 ⊢
 generalize tmps++up=up' at hB0 ⊢
 clear h hx0 hx1 hx2
 have hset:∀x,(own.set id x)[id]?=some x:=fun x=>List.getElem?_set_self (bE ho)
 have hidl:id<own.length:=bE ho
 have hnew:∀x:Option (List AV),(own++[x])[own.length]?=some x:=fun x=>by simp
 have hnew2:∀x y:Option (List AV),(own++[x]).set own.length y=own++[y]:=fun x y=>by simp
 have hold:∀x:Option (List AV),(own++[x])[id]?=some (some (l.map bd++spare 6 m)):=fun x=>by rw[List.getElem?_append_left hidl];exact ho
 have h10:decide ((1:Int)=0)=false:=by decide
 have hw1:IntKind.i64.wrap ((l.length:Int)+1)=((l.length+1:Nat):Int):=by rw[aq (by omega) (by omega)];omega
 have hw2:IntKind.i64.wrap ((p:Int)+1)=((p+1:Nat):Int):=by rw[aq (by omega) (by omega)];omega
 have hw3:IntKind.i64.wrap (((l.length+1:Nat):Int)-p)=((l.length+1-p:Nat):Int):=by rw[aq (by omega) (by omega)];omega
 repeat'(first
 |refine aa.ab fun K hK=>?_
 |(
  refine aa.here 1 10 3 rfl ?_
  refine aa.bq ?_
  refine aj.at 3 2 rfl ?_
  simp only[go_sem,h10,hset,hw1,hw2,hw3]
  (repeat(refine⟨⟨_,rfl⟩,?_⟩))
  refine aj.Vc (e:=63) (k:=6) (by kernel_rfl) (by kernel_rfl) rfl rfl (by omega) ?_
  refine aj.of ?_
  (try simp only[go_sem,h10,hset,hw1,hw2,hw3]))
 |(
  refine aa.here 7 23 4 rfl ?_
  refine aa.bq ?_
  refine aj.at 4 2 rfl ?_
  simp only[go_sem,h10,hset,hw1,hw2,hw3]
  (repeat(refine⟨⟨_,rfl⟩,?_⟩))
  refine aj.wy (es:=l.map bd) (xs:=[bd x]) (m0:=m) wM lS (by(rw[List.length_map];rfl)) rfl ho (by simp;omega) (by simp;omega) ?_
  intro m2
  rw[List.length_map]
  obtain rfl:p=l.length:=by omega
  rw[D5]
  refine aj.of ?_
  (try simp only[go_sem,h10,hset,hw1,hw2,hw3]))
 |(
  refine aa.here 8 26 6 rfl ?_
  refine aa.bq ?_
  refine aj.at 6 4 rfl ?_
  simp only[go_sem,h10,hset,hw1,hw2,hw3]
  (repeat(refine⟨⟨_,rfl⟩,?_⟩))
  refine aj.Qd (e:=63) (by kernel_rfl) rfl ?_
  refine aj.of ?_
  (try simp only[go_sem,h10,hset,hw1,hw2,hw3]))
 |(
  refine aa.here 9 32 10 rfl ?_
  refine aa.bq ?_
  refine aj.at 10 8 rfl ?_
  simp only[go_sem,h10,hset,hw1,hw2,hw3]
  (repeat(refine⟨⟨_,rfl⟩,?_⟩))
  have hm0:m=0:=by omega
  have hpl:p<l.length:=by omega
  refine⟨by omega,?_⟩
  refine aj.Tn (kn:= .i64) (id:=id) (i:=p) (cap:=l.length+m) (es:=(l.map bd++spare 6 m)) (q:=l.length+1-p) lS (by kernel_rfl) rfl rfl ho (by omega) (by rw[pa];omega) (by omega) (by omega) (by omega) (by omega) ?_
  intro m2
  rw[show p+(l.length+1-p)=l.length+1 by omega]
  refine aj.of ?_
  (try simp only[go_sem,h10,hset,hw1,hw2,hw3]))
 |(
  refine aa.here 10 41 5 rfl ?_
  refine aa.bq ?_
  refine aj.at 5 2 rfl ?_
  simp only[go_sem,h10,hset,hw1,hw2,hw3]
  (repeat(refine⟨⟨_,rfl⟩,?_⟩))
  refine aj.j0 (e:=63) (l:=p) (k:=6) (by kernel_rfl) (by kernel_rfl) rfl rfl (by omega) (by omega) (by omega) ?_
  refine aj.at 2 1 rfl ?_
  simp only[go_sem,h10,hset,hw1,hw2,hw3]
  (repeat(refine⟨⟨_,rfl⟩,?_⟩))
  refine aj.xg (xs:=[bd x]) lS rfl rfl (hnew _) (by simp[cA];omega) (by simp;omega) (by omega) ?_
  rw[Hi hp,hnew2]
  refine aj.of ?_
  (try simp only[go_sem,h10,hset,hw1,hw2,hw3]))
 |(
  refine aa.here 11 46 9 rfl ?_
  refine aa.pc [[],[],[],[1,2],[0,1,2,3],[],[],[5,6],[0,1,2,3,4,5,6,7]] [.mu own.length 6 0 (l.length+1) (l.length+1+m2),i64 (p:Int),i64 1,i64 ((p+1:Nat):Int),.mu own.length 6 (p+1) (l.length-p) (l.length+m2-p),.mu id 6 0 l.length (l.length+m),i64 (p:Int),.mu id 6 p (l.length-p) (l.length+m-p),i64 ((l.length-p:Nat):Int)] [8] (fun k=>[own++[some (ky l x p m2)],own++[some (j6 l x p m2)]].getD k []) (by kernel_rfl) (by kernel_rfl) rfl rfl rfl ?_ ?_ ?_
  ·intro i o ho hi s hg how htk hrs hr
   rcases i with _|i
   ·simp only[List.getElem?_toArray,List.getElem?_cons_zero,List.getElem?_cons_succ,Option.some.injEq] at ho;subst ho
    have e9:=(hr 9 (by decide)).trans (rfl:_=(.mu own.length 6 0 (l.length+1) (l.length+1+m2):AV))
    refine b8.list ?_
    simp only[go_sem,e9]
    (done)
   rcases i with _|i
   ·simp only[List.getElem?_toArray,List.getElem?_cons_zero,List.getElem?_cons_succ,Option.some.injEq] at ho;subst ho
    have e1:=(hr 1 (by decide)).trans (rfl:_=(i64 (p:Int):AV))
    refine b8.list ?_
    simp only[go_sem,e1]
    (done)
   rcases i with _|i
   ·simp only[List.getElem?_toArray,List.getElem?_cons_zero,List.getElem?_cons_succ,Option.some.injEq] at ho;subst ho
    have e7:=(hr 7 (by decide)).trans (rfl:_=(i64 1:AV))
    refine b8.list ?_
    simp only[go_sem,e7]
    (done)
   rcases i with _|i
   ·simp only[List.getElem?_toArray,List.getElem?_cons_zero,List.getElem?_cons_succ,Option.some.injEq] at ho;subst ho
    have e47:=(hr 47 (by decide)).trans (rfl:_=(i64 (p:Int):AV))
    have e48:=(hr 48 (by decide)).trans (rfl:_=(i64 1:AV))
    refine b8.list ?_
    simp only[go_sem,e47,e48,hw2]
   rcases i with _|i
   ·simp only[List.getElem?_toArray,List.getElem?_cons_zero,List.getElem?_cons_succ,Option.some.injEq] at ho;subst ho
    have e46:=(hr 46 (by decide)).trans (rfl:_=(.mu own.length 6 0 (l.length+1) (l.length+1+m2):AV))
    have e49:=(hr 49 (by decide)).trans (rfl:_=(i64 ((p+1:Nat):Int):AV))
    refine b8.call fun Q hQ=>?_
    refine aj.j0 (e:=63) (l:=p+1) (k:=6) (off:=0) (len:=l.length+1) (cap:=l.length+1+m2) (by kernel_rfl) (by kernel_rfl) e46 e49 (by omega) (by omega) (by omega) ?_
    rw[Nat.zero_add,show l.length+1-(p+1)=l.length-p by omega,show l.length+1+m2-(p+1)=l.length+m2-p by omega]
    exact hQ
   rcases i with _|i
   ·simp only[List.getElem?_toArray,List.getElem?_cons_zero,List.getElem?_cons_succ,Option.some.injEq] at ho;subst ho
    have e0:=(hr 0 (by decide)).trans (rfl:_=(.mu id 6 0 l.length (l.length+m):AV))
    refine b8.list ?_
    simp only[go_sem,e0]
    (done)
   rcases i with _|i
   ·simp only[List.getElem?_toArray,List.getElem?_cons_zero,List.getElem?_cons_succ,Option.some.injEq] at ho;subst ho
    have e1:=(hr 1 (by decide)).trans (rfl:_=(i64 (p:Int):AV))
    refine b8.list ?_
    simp only[go_sem,e1]
    (done)
   rcases i with _|i
   ·simp only[List.getElem?_toArray,List.getElem?_cons_zero,List.getElem?_cons_succ,Option.some.injEq] at ho;subst ho
    have e51:=(hr 51 (by decide)).trans (rfl:_=(.mu id 6 0 l.length (l.length+m):AV))
    have e52:=(hr 52 (by decide)).trans (rfl:_=(i64 (p:Int):AV))
    refine b8.call fun Q hQ=>?_
    refine aj.j0 (e:=63) (l:=p) (k:=6) (off:=0) (len:=l.length) (cap:=l.length+m) (by kernel_rfl) (by kernel_rfl) e51 e52 (by omega) (by omega) (by omega) ?_
    rw[Nat.zero_add,show l.length-p=l.length-p by omega,show l.length+m-p=l.length+m-p by omega]
    exact hQ
   rcases i with _|i
   ·exact absurd (by decide) hi
   ·exact absurd ho (by simp)
  ·intro k i o hk ho s hg how htk hrs hup hpp hr
   rcases k with _|k
   ·obtain rfl:=Option.some.inj hk
    simp only[List.getElem?_toArray,List.getElem?_cons_zero,List.getElem?_cons_succ,Option.some.injEq] at ho;subst ho
    have e50:=(hr 50 (by decide)).trans (rfl:_=(.mu own.length 6 (p+1) (l.length-p) (l.length+m2-p):AV))
    have e53:=(hr 53 (by decide)).trans (rfl:_=(.mu id 6 p (l.length-p) (l.length+m-p):AV))
    clear hr
    obtain⟨tm,ow0,tk0,gl0,rsv0,up0⟩:=s
    simp only[] at hg how htk hrs hup hpp;subst hg;subst how;subst htk;subst hrs;subst hup
    refine b8.call fun Q hQ=>?_
    refine aj.Az (l.length-p) (es:=ky l x p m2) (es2:=(l.map bd++spare 6 m)) lS (by exact e50) (by exact e53) (hnew _) (hold _) (Nat.min_self _) (by rw[D6 hp];omega) (by rw[pa];omega) (by omega) (by omega) (by rw[ql hp];exact yf l p) ?_
    rw[Vp hp]
    simp only[List.getD_cons_zero,hnew2]
    exact hQ
   ·exact absurd hk (by simp)
  simp only[go_sem,Go.Abs.gY,Go.Abs.dstsOf,List.map_cons,List.map_nil])
 |(
  refine aa.here 13 56 6 rfl ?_
  refine aa.bq ?_
  refine aj.at 6 4 rfl ?_
  simp only[go_sem,h10,hset,hw1,hw2,hw3]
  (repeat(refine⟨⟨_,rfl⟩,?_⟩))
  refine aj.Is (e:=63) (h':=l.length+1) (k:=6) (by kernel_rfl) (by kernel_rfl) rfl rfl (by simp_all<;>omega) (by simp_all<;>omega) ?_
  refine aj.of ?_
  (try simp only[go_sem,h10,hset,hw1,hw2,hw3]))
 |(
  refine aa.here 14 61 8 rfl ?_
  refine aa.bq ?_
  refine aj.at 8 5 rfl ?_
  simp only[go_sem,h10,hset,hw1,hw2,hw3]
  (repeat(refine⟨⟨_,rfl⟩,?_⟩))
  refine aj.j0 (e:=63) (l:=p+1) (k:=6) (by kernel_rfl) (by kernel_rfl) rfl rfl (by omega) (by omega) (by omega) ?_
  refine aj.Oj (e:=63) (k:=6) (t:=56) (tR:=4) LY (by kernel_rfl) (by kernel_rfl) (by decide) rfl rfl ho (by simp) (by omega) (by rw[pa];omega) ?_
  refine aj.of ?_
  (try simp only[go_sem,h10,hset,hw1,hw2,hw3]))
 |(
  refine aa.here 15 69 9 rfl ?_
  have hm1:1≤m:=by omega
  have hpl:p<l.length:=by omega
  refine aa.pc [[],[],[],[1,2],[0,1,2,3],[],[],[5,6],[0,1,2,3,4,5,6,7]] [.mu id 6 0 (l.length+1) (l.length+m),i64 (p:Int),i64 1,i64 ((p+1:Nat):Int),.mu id 6 (p+1) (l.length-p) (l.length+m-(p+1)),.mu id 6 0 (l.length+1) (l.length+m),i64 (p:Int),.mu id 6 p (l.length+1-p) (l.length+m-p),i64 ((l.length-p:Nat):Int)] [8] (fun k=>[own,own.set id (some (lx l p m))].getD k []) (by kernel_rfl) (by kernel_rfl) rfl rfl rfl ?_ ?_ ?_
  ·intro i o ho hi s hg how htk hrs hr
   rcases i with _|i
   ·simp only[List.getElem?_toArray,List.getElem?_cons_zero,List.getElem?_cons_succ,Option.some.injEq] at ho;subst ho
    have e0:=(hr 0 (by decide)).trans (rfl:_=(.mu id 6 0 (l.length+1) (l.length+m):AV))
    refine b8.list ?_
    simp only[go_sem,e0]
    (done)
   rcases i with _|i
   ·simp only[List.getElem?_toArray,List.getElem?_cons_zero,List.getElem?_cons_succ,Option.some.injEq] at ho;subst ho
    have e1:=(hr 1 (by decide)).trans (rfl:_=(i64 (p:Int):AV))
    refine b8.list ?_
    simp only[go_sem,e1]
    (done)
   rcases i with _|i
   ·simp only[List.getElem?_toArray,List.getElem?_cons_zero,List.getElem?_cons_succ,Option.some.injEq] at ho;subst ho
    have e7:=(hr 7 (by decide)).trans (rfl:_=(i64 1:AV))
    refine b8.list ?_
    simp only[go_sem,e7]
    (done)
   rcases i with _|i
   ·simp only[List.getElem?_toArray,List.getElem?_cons_zero,List.getElem?_cons_succ,Option.some.injEq] at ho;subst ho
    have e70:=(hr 70 (by decide)).trans (rfl:_=(i64 (p:Int):AV))
    have e71:=(hr 71 (by decide)).trans (rfl:_=(i64 1:AV))
    refine b8.list ?_
    simp only[go_sem,e70,e71,hw2]
   rcases i with _|i
   ·simp only[List.getElem?_toArray,List.getElem?_cons_zero,List.getElem?_cons_succ,Option.some.injEq] at ho;subst ho
    have e69:=(hr 69 (by decide)).trans (rfl:_=(.mu id 6 0 (l.length+1) (l.length+m):AV))
    have e72:=(hr 72 (by decide)).trans (rfl:_=(i64 ((p+1:Nat):Int):AV))
    refine b8.call fun Q hQ=>?_
    refine aj.j0 (e:=63) (l:=p+1) (k:=6) (off:=0) (len:=l.length+1) (cap:=l.length+m) (by kernel_rfl) (by kernel_rfl) e69 e72 (by omega) (by omega) (by omega) ?_
    rw[Nat.zero_add,show l.length+1-(p+1)=l.length-p by omega,show l.length+m-(p+1)=l.length+m-(p+1) by omega]
    exact hQ
   rcases i with _|i
   ·simp only[List.getElem?_toArray,List.getElem?_cons_zero,List.getElem?_cons_succ,Option.some.injEq] at ho;subst ho
    have e0:=(hr 0 (by decide)).trans (rfl:_=(.mu id 6 0 (l.length+1) (l.length+m):AV))
    refine b8.list ?_
    simp only[go_sem,e0]
    (done)
   rcases i with _|i
   ·simp only[List.getElem?_toArray,List.getElem?_cons_zero,List.getElem?_cons_succ,Option.some.injEq] at ho;subst ho
    have e1:=(hr 1 (by decide)).trans (rfl:_=(i64 (p:Int):AV))
    refine b8.list ?_
    simp only[go_sem,e1]
    (done)
   rcases i with _|i
   ·simp only[List.getElem?_toArray,List.getElem?_cons_zero,List.getElem?_cons_succ,Option.some.injEq] at ho;subst ho
    have e74:=(hr 74 (by decide)).trans (rfl:_=(.mu id 6 0 (l.length+1) (l.length+m):AV))
    have e75:=(hr 75 (by decide)).trans (rfl:_=(i64 (p:Int):AV))
    refine b8.call fun Q hQ=>?_
    refine aj.j0 (e:=63) (l:=p) (k:=6) (off:=0) (len:=l.length+1) (cap:=l.length+m) (by kernel_rfl) (by kernel_rfl) e74 e75 (by omega) (by omega) (by omega) ?_
    rw[Nat.zero_add,show l.length+1-p=l.length+1-p by omega,show l.length+m-p=l.length+m-p by omega]
    exact hQ
   rcases i with _|i
   ·exact absurd (by decide) hi
   ·exact absurd ho (by simp)
  ·intro k i o hk ho s hg how htk hrs hup hpp hr
   rcases k with _|k
   ·obtain rfl:=Option.some.inj hk
    simp only[List.getElem?_toArray,List.getElem?_cons_zero,List.getElem?_cons_succ,Option.some.injEq] at ho;subst ho
    have e73:=(hr 73 (by decide)).trans (rfl:_=(.mu id 6 (p+1) (l.length-p) (l.length+m-(p+1)):AV))
    have e76:=(hr 76 (by decide)).trans (rfl:_=(.mu id 6 p (l.length+1-p) (l.length+m-p):AV))
    clear hr
    obtain⟨tm,ow0,tk0,gl0,rsv0,up0⟩:=s
    simp only[] at hg how htk hrs hup hpp;subst hg;subst how;subst htk;subst hrs;subst hup
    refine b8.call fun Q hQ=>?_
    refine aj.Az (l.length-p) (es:=(l.map bd++spare 6 m)) (es2:=(l.map bd++spare 6 m)) lS (by exact e73) (by exact e76) ho ho (Nat.min_eq_right (by omega)) (by rw[pa];omega) (by rw[pa];omega) (by omega) (by omega) (by rw[ql hp];exact yf l p) ?_
    rw[EG hp hm1]
    exact hQ
   ·exact absurd hk (by simp)
  simp only[go_sem,Go.Abs.gY,Go.Abs.dstsOf,List.map_cons,List.map_nil])
 |(
  refine aa.here 16 78 5 rfl ?_
  have hm1:1≤m:=by omega
  refine aa.bq ?_
  refine aj.at 5 2 rfl ?_
  simp only[go_sem,h10,hset,hw1,hw2,hw3]
  (repeat(refine⟨⟨_,rfl⟩,?_⟩))
  refine aj.j0 (e:=63) (l:=p) (k:=6) (by kernel_rfl) (by kernel_rfl) rfl rfl (by omega) (by omega) (by omega) ?_
  refine aj.at 2 1 rfl ?_
  simp only[go_sem,h10,hset,hw1,hw2,hw3]
  (repeat(refine⟨⟨_,rfl⟩,?_⟩))
  refine aj.xg (xs:=[bd x]) lS rfl rfl (hset _) (by rw[H2 hp hm1];omega) (by simp;omega) (by omega) ?_
  rw[Mf hp hm1,List.set_set]
  refine aj.of ?_
  (try simp only[go_sem,h10,hset,hw1,hw2,hw3]))
 |(refine aa.region ?_;simp only[go_sem,h10,hset,hw1,hw2,hw3])
 |(refine hK _ ?_;clear hK K)
 |refine aa.cond rfl (fun c=>?_) (fun c=>?_)<;>first|exact Bool.noConfusion c|(try simp only[dD] at c)
 |refine aa.skip ?_
 |((with_reducible refine And.intro ?_ ?_);(focus((simp;done)));(try simp only[hb,go_sem,h10,hset,hw1,hw2,hw3]))
 |(
  refine aa.ret ?_
  (try simp only[fU,fJ])
  exact hB0 _ _ _ _ rfl (by simp))
 |(
  refine aa.ret ?_
  (try simp only[fU,fJ])
  exact hB0 _ _ _ (m-1) (by rw[show l.length+1+(m-1)=l.length+m by omega];rfl) (hset _)))
theorem Es{l:List Lm}{x y:Lm}{m:Nat}(hr:bX l=true)(hy:l[m]?=some y)(h:bw y x<0):∀(k:Nat) (z:Lm),k<m+1→l[k]?=some z→bw z x<0:=by
 intro k z hk hz
 rcases Nat.lt_or_ge k m with h1|h1
 ·exact rk (sY hr m k z y h1 hz hy) h
 ·obtain rfl:k=m:=by omega
  rw[hy] at hz;cases hz;exact h
theorem FX{l:List Lm}{x y:Lm}{m:Nat}(hr:bX l=true)(hy:l[m]?=some y)(h:¬bw y x<0):∀(k:Nat) (z:Lm),m≤k→l[k]?=some z→¬bw z x<0:=by
 intro k z hk hz h2
 rcases Nat.lt_or_ge m k with h1|h1
 ·exact h (rk (sY hr k m y z h1 hy hz) h2)
 ·obtain rfl:k=m:=by omega
  rw[hy] at hz;cases hz;exact h h2
theorem Mb(l:List Lm)(x:Lm)(hr:bX l=true):ae E 147 [bL l,bd x,.fn 148 []] (fun r t=>r= .ax [i64 (aZ l x),bl (ep l x)]∧t=[]):=by
 have hl:l.length≤32:=(jC.1 hr).1
 refine ae.av (n:=49) (rs:=[.tmp 6,.tmp 7]) Tryz.func147 rfl Tryz.ntmps147 rfl ?_
 repeat'(first
 |refine aa.ab fun K hK=>?_
 |(
  refine aa.here 4 18 7 rfl ?_
  have hh:=nr (i:=i) (j:=j) (by omega) (by omega)
  refine aa.region ?_;simp only[go_sem,hh])
 |(
  refine aa.here 5 24 8 rfl ?_
  refine aa.bc [0,1,2,3,4,5,6,7] [] (by kernel_rfl) (by kernel_rfl) rfl ?_;simp only[go_sem,Int.toNat_natCast])
 |(
  refine aa.here 8 35 16 rfl ?_
  obtain rfl:i=j:=by omega
  have gp:=I2 (x:=x) g2 g3 (fun y hy=>g4 i y (Nat.le_refl _) hy)
  refine aa.bc [0,1,2,3,4,5,6,7,8,9,10,11,12,13,14,15] [] (by kernel_rfl) (by kernel_rfl) rfl ?_;simp only[go_sem])
 |(refine aa.region ?_;simp only[go_sem])
 |(refine hK _ ?_;clear hK K)
 |refine aa.block ?_
 |refine aa.cond rfl (fun c=>?_) (fun c=>?_)<;>(try simp only[dD] at c)
 |refine aa.skip ?_
 |(refine aa.exit ?_;simp only[go_sem])
 |(refine ah.one (vQ _ _) (by kernel_rfl) rfl ?_;simp only[go_sem])
 |(refine aH.split (fun h=>?_) (fun h=>?_)<;>simp only[h,go_sem]<;>(try simp only[dD] at h))
 |((first|refine aG.nth ?_ (fun b hb=>?_)|with_reducible refine And.intro ?_ ?_);(focus(first|omega|(simp;done)));(try simp only[hb,go_sem]))
 |(
  refine aa.here 3 15 3 rfl ?_
  refine aa.cr (ι:=Nat×Nat) [11,15,16,17,18,19,20,21,22,23,24,25,26,27,28,29,30,31,32,33,34] (fun⟨i,j⟩=>[(9,i64 i),(10,i64 j)]) (fun⟨i,j⟩=>i≤j∧j≤l.length∧(∀(k:Nat) (y:Lm),k<i→l[k]?=some y→bw y x<0)∧(∀(k:Nat) (y:Lm),j≤k→l[k]?=some y→¬bw y x<0)) (fun⟨i,j⟩=>j-i) ((0,l.length)) ?_ ?_ ?_
  ·(try simp only[go_sem]);(repeat'(exact .inr (aM rfl)));done
  ·exact⟨by omega,by omega,fun k y h=>by omega,fun k y h h2=>by have:=bI h2;omega⟩
  rintro⟨i,j⟩ ⟨g1,g2,g3,g4⟩
  simp only[go_sem])
 |(
  refine⟨((i+j)/2+1,j),?_,?_,?_⟩
  ·(try simp only[go_sem]);(try rw[aq (by omega) (by omega)]);(repeat'(first|refine And.intro ?_ ?_|exact .inr rfl|exact .inr (aM rfl)));done
  ·(exact⟨by show(i+j)/2+1≤j;omega,g2,Es hr hb (by assumption),g4⟩)
  ·(show j-((i+j)/2+1)<j-i;omega))
 |(
  refine⟨(i,(i+j)/2),?_,?_,?_⟩
  ·(try simp only[go_sem]);(try rw[aq (by omega) (by omega)]);(repeat'(exact .inr (aM rfl)));done
  ·(exact⟨by show i≤(i+j)/2;omega,by show(i+j)/2≤l.length;omega,g3,FX hr hb (by assumption)⟩)
  ·(show(i+j)/2-i<j-i;omega))
 |(
  refine aa.ret ?_
  refine az.is ?_;simp only[go_sem,aB,aE,aF,aA,aC,aD]<;>((try simp only[gp,true_and]);(first|(rw[lG (show l[aZ l x]?=some b by rw[gp];exact hb)];done)|(rw[sO (x:=x) (by omega)];done))))
 |refine aa.fin (by assumption) ?_)
theorem oq(l:List Lm):∀e∈l.map bd,∀x∈e.leaves,x.dL=some x:=by
 intro e he x hx
 obtain⟨o,_,rfl⟩:=List.mem_map.1 he
 simp only[AV.leaves,List.mem_cons,List.not_mem_nil,or_false] at hx
 rcases hx with rfl|rfl|rfl|rfl|rfl|rfl<;>rfl
theorem I9(l:List Lm):∀e∈l.map bd,e.leaves.length=6∧∀y∈e.leaves,∃z,y= .v z:=by
 intro e he
 obtain⟨o,_,rfl⟩:=List.mem_map.1 he
 refine⟨rfl,fun x hx=>?_⟩
 simp only[AV.leaves,List.mem_cons,List.not_mem_nil,or_false] at hx
 rcases hx with rfl|rfl|rfl|rfl|rfl|rfl<;>exact⟨_,rfl⟩
theorem Gp{l:List Lm}{k m:Nat}{y:Lm}(h:l[k]?=some y):(l.map bd++spare 6 m)[k]?=some (bd y):=by
 rw[List.getElem?_append_left (by rw[List.length_map];exact bI h),List.getElem?_map,h];rfl
theorem Ku{l:List Lm}{k m:Nat}{x:Lm}(h:k<l.length):(l.map bd++spare 6 m).set k (bd x)=(l.set k x).map bd++spare 6 m:=by
 rw[List.set_append_left _ _ (by simpa using h),List.map_set]
theorem JS(l:List Lm)(x:Lm)(hl:l.length≤1000000):ae E 77 [bL l,bd x] (fun r t=>r= .ax [bL (cT l x).1,i64 (cT l x).2]∧t=[]):=by
 refine ae.av (n:=41) (rs:=[.tmp 4,.tmp 5]) Tryz.func77 rfl Tryz.ntmps77 rfl ?_
 repeat'(first
 |refine aa.ab fun K hK=>?_
 |(
  refine aa.here 3 19 3 rfl ?_
  refine aa.lr 6 1 6 l.length (l.length+m) (l.map bd) (spare 6 m) rfl rfl (by simp) (oq _) ?_
  simp only[go_sem]
  refine aa.region ?_;simp only[go_sem])
 |(
  refine aa.here 6 27 5 rfl ?_
  have hmr:dW x=true:=by simp_all
  have hhs:ep l x=true:=by simp_all
  have f1:=Gp (m:=m) (List.getElem?_eq_getElem (pd hhs))
  refine aa.region ?_;simp only[go_sem,f1,Int.toNat_natCast]
  refine⟨(by have:=pd hhs;omega),?_⟩)
 |(
  refine aa.here 7 31 3 rfl ?_
  rw[Ku (pd hhs)]
  refine aa.lr 6 1 6 l.length (l.length+m) ((l.set (aZ l x) x).map bd) (spare 6 m) rfl rfl (by simp) (oq _) ?_
  simp only[go_sem]
  refine aa.region ?_;simp only[go_sem])
 |(
  refine aa.here 9 35 3 rfl ?_
  refine aa.lr 6 1 6 l.length (l.length+m) (l.map bd) (spare 6 m) rfl rfl (by simp) (oq _) ?_
  simp only[go_sem]
  refine aa.region ?_;simp only[go_sem])
 |(
  refine aa.here 10 36 7 rfl ?_
  have hr:bX l=true:=by simp_all
  have h32:l.length≤32:=(jC.1 hr).1
  refine aa.bq ?_
  refine aj.at 7 4 rfl ?_
  simp only[go_sem]
  (repeat(refine⟨⟨_,rfl⟩,?_⟩))
  refine Sz (l:=l) (p:=aZ l x) (m:=m) (id:=1) (x:=x) rfl rfl rfl rfl (lL l x).1 (by omega) ?_
  intro own' id' m' ho'
  refine aj.of ?_
  (try simp only[go_sem]))
 |(refine aa.region ?_;simp only[go_sem])
 |(refine hK _ ?_;clear hK K)
 |refine aa.cond rfl (fun c=>?_) (fun c=>?_)<;>first|exact Bool.noConfusion c|(try simp only[dD] at c)
 |refine aa.skip ?_
 |(refine ah.take (rW l hl) (by kernel_rfl) rfl (.cons (.one (.clean rfl)) .nil) ?_;rintro r t ⟨rfl,rfl⟩;refine⟨0,6,_,rfl,by simp,I9 _,fun m=>?_⟩;simp only[go_sem,List.length_map])
 |(refine ah.one (qm l (by omega)) (by kernel_rfl) rfl ?_;simp only[go_sem])
 |(refine ah.one (sB x) (by kernel_rfl) rfl ?_;simp only[go_sem])
 |(have hr:bX l=true:=(by assumption);refine ah.sn (.cons (.one (.iY rfl (by simp) (oq _))) (.cons (.one (.clean rfl)) (.cons (.fn .nil) .nil))) (Mb l x hr) (by kernel_rfl) rfl (by(simp[jW,kT,ku];done)) ?_;simp only[go_sem])
 |(refine aH.split (fun h=>?_) (fun h=>?_)<;>simp only[h,go_sem]<;>(try simp only[dD] at h))
 |((with_reducible refine And.intro ?_ ?_);(focus((simp;done)));(try simp only[hb,go_sem]))
 |(
  unfold j6 at ho'
  refine aa.lr 4 id' 6 (l.length+1) (l.length+1+m') ((l.take (aZ l x)++x::l.drop (aZ l x)).map bd) (spare 6 m') rfl ho' (by have:=(lL l x).1;simp;omega) (oq _) ?_
  simp only[go_sem]
  refine aa.ret ?_
  refine az.is ?_;simp only[go_sem,aB,aE,aF,aA,aC,aD]<;>(((rw[tj (by simp_all) (by simp_all) (by simp_all) (by omega)];simp;done))))
 |(
  refine aa.ret ?_
  refine az.is ?_;simp only[go_sem,aB,aE,aF,aA,aC,aD]<;>((first|(rw[qd (fun e=>by simp_all)];simp;done)|(rw[uS (by simp_all) (by simp_all) (by simp_all)];simp;done)|(rw[sQ (by simp_all) (by simp_all) (by simp_all) (by omega)];simp;done)))))
end Go.Proofs.YtajeeghgiilhiaaGreat
end
