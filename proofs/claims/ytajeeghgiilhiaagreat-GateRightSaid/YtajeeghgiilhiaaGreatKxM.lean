/- Texts of one chain, put together (Lv, Lq, Lj, Lr, Lt, Lx). -/
import Derived.Test.YtajeeghgiilhiaaGreatKxK
import Derived.Laws.MakeOwn
import Derived.Lib.AppendZerosOnto
import Derived.Lib.Overlaps
import Derived.Test.YtajeeghgiilhiaaGreatKxA
set_option linter.unusedVariables false
set_option linter.unusedSimpArgs false
set_option maxHeartbeats 16000000
set_option maxRecDepth 8000
section
namespace Go.Abs
open Go Go.RowKit
theorem cH.drop{c:Ctx}{k:Nat}{es:List AV}{cs:List Value}(h:cH c k es cs)(d:Nat):cH c k (es.drop d) (cs.drop (d*k)):=by
 refine⟨fun i e he=>h.1 (d+i) e (by rwa[List.getElem?_drop] at he),fun i e j x he hx=>?_⟩
 rw[List.getElem?_drop] at he
 obtain⟨v,h1,h2⟩:=h.2 (d+i) e j x he hx
 refine⟨v,?_,h2⟩
 rw[List.getElem?_drop,←h1]
 congr 1
 rw[Nat.add_mul];omega
theorem cH.takeN{c:Ctx}{k:Nat}{es:List AV}{cs:List Value}(h:cH c k es cs)(d:Nat)(hd:d≤es.length):cH c k (es.take d) (cs.take (d*k)):=by
 have h2:cH c k (es.take d++es.drop d) cs:=by rw[List.take_append_drop];exact h
 have:=h2.take
 rwa[List.length_take,Nat.min_eq_left hd] at this
section
variable{P:Program}{w0:World}{im0:dt}{c:Ctx}{st:St}{a:Act}{w:World}
theorem WA(r:Rel w0 im0 c st a w){t tx ty e:TypeId}{k n':Nat}(hx:eI P tx=true)(hai:dd P t=some (e,k,n')){id i j o cy:Nat}{es:List AV}{v xv:Value}
 (hv:VR c (.mu id k 0 i es.length) v) (hxv:VR c (.mu id k o j cy) xv) (ho:st.own[id]?=some (some es)) (hpos:0<es.length) (hij:i+j≤es.length) (hoj:o+j≤es.length) (hna:∀e∈(es.drop o).take j,∀x∈e.leaves,x≠.any):
 ∃v' w',(Builtin.append_ #[t,tx] ty #[v,xv]).run P w= .ok v' w'∧Rel w0 im0 c { st with own:=st.own.set id (some (es.take i++((es.drop o).take j++es.drop (i+j)))) } a w'∧VR c (.mu id k 0 (i+j) es.length) v':=by
 obtain⟨hu,hs,hk0,ii,zv,hi,hz,hsize,hbytes,hzs⟩:=jf hai
 rcases hv.c0 with⟨g,hb,hcap,hve⟩|⟨_,hz2,_⟩
 rotate_left
 ·omega
 have hown:=r.own id g k _ hb ho
 obtain⟨cs,ty',lo,hi',hblk,hfr,hsz,hlv,hcell⟩:=hown.bc
 rw[Nat.zero_mul] at hve
 have hoc:cH c k es cs.toList:=⟨hlv,fun i e j x he hx=>by obtain⟨u,h1,h2⟩:=hcell i e j x he hx;exact⟨u,by simpa using h1,h2⟩⟩
 have hq:cs.toList.length=cs.size:=Array.length_toList
 have hmul:(o+j)*k≤es.length*k:=Nat.mul_le_mul_right _ hoj
 have hmul2:(i+j)*k≤es.length*k:=Nat.mul_le_mul_right _ hij
 rw[Nat.add_mul] at hmul hmul2
 obtain⟨news,hnews⟩:∃news,news=(cs.toList.drop (o*k)).take (j*k):=⟨_,rfl⟩
 have hnl:news.length=j*k:=by rw[hnews,List.length_take,List.length_drop,hq];omega
 have hone:∀u∈news,u.oneCell'=true:=by
  intro u hu'
  obtain⟨q,hq'⟩:=List.mem_iff_getElem?.1 hu'
  rw[hnews,List.getElem?_take] at hq'
  split at hq'
  ·rename_i hqlt
   rw[List.getElem?_drop] at hq'
   have hdm:=Nat.div_add_mod q k
   have hmod:=Nat.mod_lt q hk0
   have hdiv:q/k<j:=Nat.div_lt_of_lt_mul (by rw[Nat.mul_comm];exact hqlt)
   have hel:es[o+q/k]?=some (es[o+q/k]' ab):=List.getElem?_eq_getElem ab
   have hlen:=hlv _ _ hel
   have hlf:(es[o+q/k]' ab).leaves[q%k]?=some ((es[o+q/k]' ab).leaves[q%k]' ab):=List.getElem?_eq_getElem ab
   obtain⟨v2,e1,e2,e3⟩:=hcell _ _ _ _ hel hlf
   have hidx:(o+q/k)*k+q%k=o*k+q:=by
    rw[Nat.add_mul,Nat.mul_comm (q/k) k];omega
   rw[hidx] at e1
   have:u=v2:=by
    have h1:cs.toList[o*k+q]?=some v2:=by simpa using e1
    rw[h1] at hq';exact(Option.some.inj hq').symm
   subst this
   refine e3.resolve_left (hna _ ?_ _ (List.mem_of_getElem? hlf))
   refine List.mem_iff_getElem?.2 ⟨q/k,?_⟩
   rw[List.getElem?_take,if_pos hdiv,List.getElem?_drop];exact hel
  ·simp at hq'
 have hlen:(Builtin.lenOf xv).run P w= .ok j w∧(Builtin.firstCells k j xv).run P w= .ok news.toArray w:=by
  rcases hxv.c0 with⟨g2,hb2,hcap2,hxe⟩|⟨hj0,_,hxe⟩
  ·have hg:g2=g:=by rw[hb] at hb2;simp only[Option.some.injEq,Prod.mk.injEq] at hb2;exact hb2.1.symm
   subst hg
   rw[hxe]
   refine⟨by simp[Builtin.lenOf],?_⟩
   exact run_firstCells_some w k j ⟨g2,o*k,none⟩ j _ _ hnl (fun p u hp=>by
    rw[fQ]
    rw[hnews,List.getElem?_take] at hp
    split at hp
    ·rw[List.getElem?_drop] at hp
     simp only[World.cell?,hblk,Option.isSome_none,Bool.false_eq_true,if_false];simpa using hp
    ·simp at hp)
  ·subst hj0
   rw[hxe]
   have:news=[]:=List.eq_nil_of_length_eq_zero (by rw[hnl];simp)
   rw[this]
   exact⟨by simp[Builtin.lenOf],run_firstCells_none w k 0 0 0⟩
 have hfro:∀o,o<cs.toList.length→¬(lo≤o∧o<hi'):=fun o h1 h2=>by
  have h1:o<cs.size:=by simpa using h1
  rcases hfr with h|h<;>omega
 have hcs:cs=cs.toList.toArray:=by simp
 have hfit2:i*k+0+news.length≤cs.toList.length:=by rw[hnl,hq];omega
 have hst:=lT (P:=P) g (i*k) ty' lo hi' news 0 cs.toList w (by rw[←hcs];exact hblk) hfro hfit2 hone
 rw[Nat.add_zero] at hst
 have hrun:=nL (P:=P) (w:=w) (ty:=ty) (base:=some ⟨g,0,none⟩) (n:=i) (cap:=es.length) hu hs hx hlen.1 hlen.2 hij
 simp only[fQ,Nat.zero_add,hst,Result.andThen_ok] at hrun
 have hcs'len:(cn cs.toList (i*k) news).length=cs.size:=by rw[gB];simp
 have hOC:cH c k (es.take i++((es.drop o).take j++es.drop (i+j))) (cn cs.toList (i*k) news):=by
  have e1:cn cs.toList (i*k) news=cs.toList.take (i*k)++(news++cs.toList.drop ((i+j)*k)):=by
   apply List.ext_getElem?
   intro p
   have htl:(cs.toList.take (i*k)).length=i*k:=by rw[List.length_take,hq];omega
   rw[jI _ _ _ _ (by simpa using hfit2)]
   by_cases hp:p<i*k
   ·rw[if_neg ab,List.getElem?_append_left (by rw[htl];exact hp),List.getElem?_take,if_pos hp]
   ·rw[List.getElem?_append_right (by rw[htl];omega),htl]
    by_cases hp2:p<i*k+news.length
    ·rw[if_pos ⟨by omega,hp2⟩,List.getElem?_append_left ab]
    ·rw[if_neg ab,List.getElem?_append_right ab,List.getElem?_drop,hnl,Nat.add_mul]
     congr 1;rw[hnl] at hp2;omega
  rw[e1]
  refine(hoc.takeN i ab).append (by rw[List.length_take,List.length_take,hq,Nat.min_eq_left (show i≤es.length by omega)];omega) ?_
  rw[hnews]
  refine((hoc.drop o).takeN j (by rw[List.length_drop];omega)).append (by rw[←hnews,hnl,List.length_take,List.length_drop,Nat.min_eq_left ab]) (hoc.drop (i+j))
 have hnewlen:(es.take i++((es.drop o).take j++es.drop (i+j))).length=es.length:=by simp only[List.length_append,List.length_take,List.length_drop];omega
 have hset:=r.l9 (w':=w.setRow g (cn cs.toList (i*k) news).toArray) (es':=es.take i++((es.drop o).take j++es.drop (i+j))) hb ho (fun b hne=>setRow_other w g b _ hne) (below_setRow r.below hown.new _)
  ⟨(cn cs.toList (i*k) news).toArray,ty',lo,hi',setRow_heap w g cs _ ty' (lo,hi') hblk,by
    rcases hfr with h|h
    ·exact .inl h
    ·exact .inr (by simpa[gB] using h),by
    rw[hnewlen];simp only[List.size_toArray,hcs'len];exact hsz,hOC.1,fun i e j x he hx=>by
    obtain⟨u,h1,h2⟩:=hOC.2 i e j x he hx
    exact⟨u,by simpa using h1,h2⟩⟩
 refine⟨_,_,by rw[hve];exact hrun,hset,?_⟩
 have:=VR.mu (c:=c) (id:=id) (off:=0) (len:=i+j) (g:=g) (k:=k) (cap:=es.length) hb hij
 rw[Nat.zero_mul] at this
 exact this
end
section
variable{E:Env}{Q:Exit→St→Prop}{st:St}{ops:Array Oper}{l:List Oper}
theorem an.zR{dst:Option Tmp}{t tx ty:TypeId}{x y:Operand}{pos:String}{after:Array Edge}{e:TypeId}{k n' id i j o cy:Nat}{es:List AV}
 (hx:eI E.P tx=true) (hai:dd E.P t=some (e,k,n')) (hs:st.ev x= .mu id k 0 i es.length) (hsy:st.ev y= .mu id k o j cy) (ho:st.own[id]?=some (some es)) (hpos:0<es.length) (hij:i+j≤es.length) (hoj:o+j≤es.length) (hna:∀e∈(es.drop o).take j,∀x∈e.leaves,x≠.any)
 (h:an E ops l Q (St.put { st with own:=st.own.set id (some (es.take i++((es.drop o).take j++es.drop (i+j)))) } dst (.mu id k 0 (i+j) es.length))):an E ops (⟨dst,.call ⟨.builtin .append,#[x,y],#[t,tx]⟩,ty,pos,after,none⟩::l) Q st:=by
 intro w0 im0 cx a w h0 hG r
 refine wpList_step (fun K' hK'=>?_)
 have hw:Region.wanted ⟨dst,.call ⟨.builtin .append,#[x,y],#[t,tx]⟩,ty,pos,after,none⟩ (yielded ops a.tmps)=true:=rfl
 rw[if_pos hw]
 have hv:=r.ev x
 have hvy:=r.ev y
 rw[hs] at hv;rw[hsy] at hvy
 obtain⟨v',w',h1,h2,h3⟩:=WA (P:=E.P) (ty:=ty) r hx hai hv hvy ho hpos hij hoj hna
 refine eT (w':=w') (v:=v') ?_ (hK' _ _ (h w0 im0 _ _ _ h0 hG (h2.put dst h3)))
 simp only[execOp,resolve,Sem.run_bind,Sem.run_pure,Result.andThen_ok,invoke,builtin,List.map_toArray,List.map_cons,List.map_nil,h1]
theorem Ys{P:Program}{w:World}{len cap l h m:Nat}(h1:l≤h)(h2:h≤m)(h3:m≤cap):(Instr.sliceBounds true len cap (some (.int .i64 (l:Int))) (some (.int .i64 (h:Int))) (some (.int .i64 (m:Int)))).run P w= .ok (l,h,m) w:=by
 have e1:∀code,(Instr.sliceBound (.int .i64 (m:Int)) cap code).run P w= .ok m w:=fun code=>(j6 ab ab).trans aD
 have e2:∀code,(Instr.sliceBound (.int .i64 (h:Int)) m code).run P w= .ok h w:=fun code=>(j6 ab ab).trans aD
 have e3:∀code,(Instr.sliceBound (.int .i64 (l:Int)) h code).run P w= .ok l w:=fun code=>(j6 ab ab).trans aD
 simp[Instr.sliceBounds,Sem.run_bind,e1,e2,e3]
theorem YU{P:Program}{w:World}{len cap l h:Nat}(h1:l≤h)(h2:h≤cap):(Instr.sliceBounds true len cap (some (.int .i64 (l:Int))) (some (.int .i64 (h:Int))) none).run P w= .ok (l,h,cap) w:=by
 have e2:∀code,(Instr.sliceBound (.int .i64 (h:Int)) cap code).run P w= .ok h w:=fun code=>(j6 ab ab).trans aD
 have e3:∀code,(Instr.sliceBound (.int .i64 (l:Int)) h code).run P w= .ok l w:=fun code=>(j6 ab ab).trans aD
 simp[Instr.sliceBounds,Sem.run_bind,e2,e3]
theorem A3{P:Program}{w:World}{len cap l:Nat}(h1:l≤len):(Instr.sliceBounds true len cap (some (.int .i64 (l:Int))) none none).run P w= .ok (l,len,cap) w:=by
 have e3:∀code,(Instr.sliceBound (.int .i64 (l:Int)) len code).run P w= .ok l w:=fun code=>(j6 ab ab).trans aD
 simp[Instr.sliceBounds,Sem.run_bind,e3]
theorem an.NL{dst:Option Tmp}{t ty:TypeId}{x lo hi mx:Operand}{pos:String}{after:Array Edge}{e:TypeId}{k id off len cap l' h' m':Nat}
 (hu:E.P.underlying t=some (.slice e)) (hsz:bK E.P e=some k) (hs:st.ev x= .mu id k off len cap) (hl:st.ev lo=i64 (l':Int)) (hh:st.ev hi=i64 (h':Int)) (hm:st.ev mx=i64 (m':Int)) (h1:l'≤h') (h2:h'≤m') (h3:m'≤cap)
 (h:an E ops l Q (st.put dst .any)):an E ops (⟨dst,.slice t x (some lo) (some hi) (some mx),ty,pos,after,none⟩::l) Q st:=by
 intro w0 im0 cx a w h0' hG r
 refine wpList_step (fun K' hK'=>?_)
 have hw:Region.wanted ⟨dst,.slice t x (some lo) (some hi) (some mx),ty,pos,after,none⟩ (yielded ops a.tmps)=true:=rfl
 rw[if_pos hw]
 have hv:=r.ev x
 rw[hs] at hv
 have e1:a.eval lo= .int .i64 (l':Int):=by have:=r.ev lo;rw[hl] at this;exact this.bD
 have e2:a.eval hi= .int .i64 (h':Int):=by have:=r.ev hi;rw[hh] at this;exact this.bD
 have e3:a.eval mx= .int .i64 (m':Int):=by have:=r.ev mx;rw[hm] at this;exact this.bD
 have hval:∃u,(Instr.sliceAt t (a.eval x) (some (a.eval lo)) (some (a.eval hi)) (some (a.eval mx))).run E.P w= .ok u w:=by
  rw[e1,e2,e3]
  have key:∀(b:Option Addr) (len cap:Nat),m'≤cap→(Instr.sliceAt t (.slice b len cap) (some (.int .i64 (l':Int))) (some (.int .i64 (h':Int))) (some (.int .i64 (m':Int)))).run E.P w= .ok (.slice (if m'=l' then b else b.map (·.add (l'*k))) (h'-l') (m'-l')) w:=by
   intro b len cap hm3
   simp only[Instr.sliceAt,Sem.run_bind,b6 hu,Result.andThen_ok,Instr.slice,Ys (P:=E.P) (w:=w) h1 h2 hm3,dO hsz,Sem.run_pure]
  rcases hv.c0 with⟨g,hb,hcap,hve⟩|⟨hz,hz2,hve⟩
  ·rw[hve];exact⟨_,key _ _ _ h3⟩
  ·rw[hve];exact⟨_,key _ _ _ ab⟩
 obtain⟨u,hrun⟩:=hval
 refine eT (w':=w) (v:=u) ?_ (hK' _ _ (h w0 im0 _ _ _ h0' hG (r.put dst (.base (.any _)))))
 simp only[execOp,Option.map_some,Sem.run_bind,hrun,Result.andThen_ok,Sem.run_pure]
theorem an.E3{dst:Option Tmp}{t ty:TypeId}{x lo hi:Operand}{pos:String}{after:Array Edge}{e:TypeId}{k id off len cap l' h':Nat}
 (hu:E.P.underlying t=some (.slice e)) (hsz:bK E.P e=some k) (hs:st.ev x= .mu id k off len cap) (hl:st.ev lo=i64 (l':Int)) (hh:st.ev hi=i64 (h':Int)) (h1:l'≤h') (h2:h'≤cap) (h3:l'<cap)
 (h:an E ops l Q (st.put dst (.mu id k (off+l') (h'-l') (cap-l')))):an E ops (⟨dst,.slice t x (some lo) (some hi) none,ty,pos,after,none⟩::l) Q st:=by
 intro w0 im0 cx a w h0' hG r
 refine wpList_step (fun K' hK'=>?_)
 have hw:Region.wanted ⟨dst,.slice t x (some lo) (some hi) none,ty,pos,after,none⟩ (yielded ops a.tmps)=true:=rfl
 rw[if_pos hw]
 have hv:=r.ev x
 rw[hs] at hv
 have e1:a.eval lo= .int .i64 (l':Int):=by have:=r.ev lo;rw[hl] at this;exact this.bD
 have e2:a.eval hi= .int .i64 (h':Int):=by have:=r.ev hi;rw[hh] at this;exact this.bD
 rcases hv.c0 with⟨g,hb,hcap,hve⟩|⟨hz,hz2,_⟩
 rotate_left
 ·omega
 have hrun:(Instr.sliceAt t (a.eval x) (some (a.eval lo)) (some (a.eval hi)) none).run E.P w= .ok (.slice (some ⟨g,(off+l')*k,none⟩) (h'-l') (cap-l')) w:=by
  rw[e1,e2,hve]
  simp only[Instr.sliceAt,Sem.run_bind,b6 hu,Result.andThen_ok,Instr.slice,YU (P:=E.P) (w:=w) h1 h2,dO hsz,Sem.run_pure]
  have hne:¬cap=l':=by omega
  simp[hne,Addr.add,Nat.add_mul]
 refine eT (w':=w) (v:= .slice (some ⟨g,(off+l')*k,none⟩) (h'-l') (cap-l')) ?_ (hK' _ _ (h w0 im0 _ _ _ h0' hG (r.put dst (.mu hb ab))))
 simp only[execOp,Option.map_some,Option.map_none,Sem.run_bind,hrun,Result.andThen_ok,Sem.run_pure]
theorem an.Df{dst:Option Tmp}{t ty:TypeId}{x lo:Operand}{pos:String}{after:Array Edge}{e:TypeId}{k id off cap:Nat}
 (hu:E.P.underlying t=some (.slice e)) (hsz:bK E.P e=some k) (hs:st.ev x= .mu id k off cap cap) (hl:st.ev lo=i64 (cap:Int)) (hc:0<cap)
 (h:an E ops l Q (st.put dst (.mu id k off 0 0))):an E ops (⟨dst,.slice t x (some lo) none none,ty,pos,after,none⟩::l) Q st:=by
 intro w0 im0 cx a w h0' hG r
 refine wpList_step (fun K' hK'=>?_)
 have hw:Region.wanted ⟨dst,.slice t x (some lo) none none,ty,pos,after,none⟩ (yielded ops a.tmps)=true:=rfl
 rw[if_pos hw]
 have hv:=r.ev x
 rw[hs] at hv
 have e1:a.eval lo= .int .i64 (cap:Int):=by have:=r.ev lo;rw[hl] at this;exact this.bD
 rcases hv.c0 with⟨g,hb,hcap,hve⟩|⟨hz,hz2,_⟩
 rotate_left
 ·omega
 have hrun:(Instr.sliceAt t (a.eval x) (some (a.eval lo)) none none).run E.P w= .ok (.slice (some ⟨g,off*k,none⟩) 0 0) w:=by
  rw[e1,hve]
  simp only[Instr.sliceAt,Sem.run_bind,b6 hu,Result.andThen_ok,Instr.slice,A3 (P:=E.P) (w:=w) (Nat.le_refl _),dO hsz,Sem.run_pure]
  simp
 refine eT (w':=w) (v:= .slice (some ⟨g,off*k,none⟩) 0 0) ?_ (hK' _ _ (h w0 im0 _ _ _ h0' hG (r.put dst (.mu hb (Nat.le_refl _)))))
 simp only[execOp,Option.map_some,Option.map_none,Sem.run_bind,hrun,Result.andThen_ok,Sem.run_pure]
end
theorem Cells.LJ{c:Ctx}{k:Nat}{es:List AV}{cs:List Value}(h:Cells c.im k es cs):cH c k es cs:=
 ⟨h.1,fun i e j x he hx=>by obtain⟨u,h1,h2,h3⟩:=h.2 i e j x he hx;exact⟨u,h1,.base h2,.inr h3⟩⟩
section
variable{P:Program}{w0:World}{im0:dt}{c:Ctx}{st:St}{a:Act}{w:World}
theorem Yn(r:Rel w0 im0 c st a w){t tx ty e:TypeId}{k n':Nat}(hai:dd P t=some (e,k,n')){id off len cap:Nat}{es xs:List AV}{v xv:Value}{x:AV}
 (hv:VR c (.mu id k off len cap) v) (hxv:VR c x xv) (hsrc:iu x k=some xs) (ho:st.own[id]?=some (some es)) (hfit:off+len≤es.length) (hxl:xs.length≤len) (hpos:0<len):
 ∃w',(Builtin.copy_ #[t,tx] ty #[v,xv]).run P w= .ok (goInt xs.length) w'∧Rel w0 im0 c { st with own:=st.own.set id (some (es.take off++(xs++es.drop (off+xs.length)))) } a w':=by
 obtain⟨hu,hs,hk0,ii,zv,hi,hz,hsize,hbytes,hzs⟩:=jf hai
 rcases hv.c0 with⟨g,hb,hcap,hve⟩|⟨hl0,_,_⟩
 rotate_left
 ·omega
 have hown:=r.own id g k _ hb ho
 obtain⟨cs,ty',lo,hi',hblk,hfr,hsz,hlv,hcell⟩:=hown.bc
 obtain⟨news,hnl,hcells,hlen,hone,hfirst⟩:=oy (P:=P) r hxv hk0 hsrc
 have hoc:cH c k es cs.toList:=⟨hlv,fun i e j x he hx=>by obtain⟨u,h1,h2⟩:=hcell i e j x he hx;exact⟨u,by simpa using h1,h2⟩⟩
 have hq:cs.toList.length=cs.size:=Array.length_toList
 have hmul:(off+xs.length)*k≤es.length*k:=Nat.mul_le_mul_right _ ab
 rw[Nat.add_mul] at hmul
 have hfro:∀o,o<cs.toList.length→¬(lo≤o∧o<hi'):=fun o h1 h2=>by
  have h1:o<cs.size:=by simpa using h1
  rcases hfr with h|h<;>omega
 have hcs:cs=cs.toList.toArray:=by simp
 have hfit2:off*k+0+news.length≤cs.toList.length:=by rw[hnl,hq];omega
 have hst:=lT (P:=P) g (off*k) ty' lo hi' news 0 cs.toList w (by rw[←hcs];exact hblk) hfro hfit2 hone
 rw[Nat.add_zero] at hst
 have hrun:(Builtin.copy_ #[t,tx] ty #[v,xv]).run P w= .ok (goInt xs.length) (w.setRow g (cn cs.toList (off*k) news).toArray):=by
  have hmin:Nat.min xs.length len=xs.length:=Nat.min_eq_left hxl
  have hso:=dO hs w
  subst hve
  simp only[Builtin.copy_,List.getElem?_toArray,List.getElem?_cons_zero,List.getElem?_cons_succ,Sem.run_bind,b6 hu,Result.andThen_ok,hlen w,hso,hmin,hfirst w (fun _ _=>rfl),hst,Sem.run_pure]
 have hcs'len:(cn cs.toList (off*k) news).length=cs.size:=by rw[gB];simp
 have hOC:cH c k (es.take off++(xs++es.drop (off+xs.length))) (cn cs.toList (off*k) news):=by
  have e1:cn cs.toList (off*k) news=cs.toList.take (off*k)++(news++cs.toList.drop ((off+xs.length)*k)):=by
   apply List.ext_getElem?
   intro p
   have htl:(cs.toList.take (off*k)).length=off*k:=by rw[List.length_take,hq];omega
   rw[jI _ _ _ _ (by simpa using hfit2)]
   by_cases hp:p<off*k
   ·rw[if_neg ab,List.getElem?_append_left (by rw[htl];exact hp),List.getElem?_take,if_pos hp]
   ·rw[List.getElem?_append_right (by rw[htl];omega),htl]
    by_cases hp2:p<off*k+news.length
    ·rw[if_pos ⟨by omega,hp2⟩,List.getElem?_append_left ab]
    ·rw[if_neg ab,List.getElem?_append_right ab,List.getElem?_drop,hnl,Nat.add_mul]
     congr 1;rw[hnl] at hp2;omega
  rw[e1]
  refine(hoc.takeN off ab).append (by rw[List.length_take,List.length_take,hq,Nat.min_eq_left (show off≤es.length by omega)];omega) ?_
  exact hcells.LJ.append hnl (hoc.drop (off+xs.length))
 have hnewlen:(es.take off++(xs++es.drop (off+xs.length))).length=es.length:=by simp only[List.length_append,List.length_take,List.length_drop];omega
 have hset:=r.l9 (w':=w.setRow g (cn cs.toList (off*k) news).toArray) (es':=es.take off++(xs++es.drop (off+xs.length))) hb ho (fun b hne=>setRow_other w g b _ hne) (below_setRow r.below hown.new _)
  ⟨(cn cs.toList (off*k) news).toArray,ty',lo,hi',setRow_heap w g cs _ ty' (lo,hi') hblk,by
    rcases hfr with h|h
    ·exact .inl h
    ·exact .inr (by simpa[gB] using h),by
    rw[hnewlen];simp only[List.size_toArray,hcs'len];exact hsz,hOC.1,fun i e j x he hx=>by
    obtain⟨u,h1,h2⟩:=hOC.2 i e j x he hx
    exact⟨u,by simpa using h1,h2⟩⟩
 exact⟨_,hrun,hset⟩
end
theorem an.Az{E:Env}{Q:Exit→St→Prop}{st:St}{ops:Array Oper}{l:List Oper}{dst:Option Tmp}{t tx ty:TypeId}{x y:Operand}{pos:String}{after:Array Edge}{e:TypeId}{k n id off len cap:Nat}{es xs:List AV}
 (hai:dd E.P t=some (e,k,n)) (hx:st.ev x= .mu id k off len cap) (hsrc:iu (st.ev y) k=some xs) (ho:st.own[id]?=some (some es)) (hfit:off+len≤es.length) (hxl:xs.length≤len) (hpos:0<len)
 (h:an E ops l Q (St.put { st with own:=st.own.set id (some (es.take off++(xs++es.drop (off+xs.length)))) } dst (.v (goInt xs.length)))):an E ops (⟨dst,.call ⟨.builtin .copy,#[x,y],#[t,tx]⟩,ty,pos,after,none⟩::l) Q st:=by
 intro w0 im0 cx a w h0 hG r
 refine wpList_step (fun K' hK'=>?_)
 have hw:Region.wanted ⟨dst,.call ⟨.builtin .copy,#[x,y],#[t,tx]⟩,ty,pos,after,none⟩ (yielded ops a.tmps)=true:=rfl
 rw[if_pos hw]
 have hv:=r.ev x
 rw[hx] at hv
 obtain⟨w',hrun,r2⟩:=Yn (P:=E.P) (tx:=tx) (ty:=ty) r hai hv (r.ev y) hsrc ho hfit hxl hpos
 refine eT (w':=w') (v:=goInt xs.length) ?_ (hK' _ _ (h w0 im0 _ _ _ h0 hG (r2.put dst (.base (.v _)))))
 simp[execOp,resolve,invoke,Sem.run_bind,builtin,hrun]
section
variable{P:Program}{w0:World}{im0:dt}{c:Ctx}{st:St}{a:Act}{w:World}
theorem QT(r:Rel w0 im0 c st a w){t tn ty e:TypeId}{k n':Nat}{kn kq:IntKind}(hai:dd P t=some (e,k,n'))(htn:P.underlying tn=some (.int kn)){id i cap q:Nat}{es:List AV}{v:Value}
 (hv:VR c (.mu id k 0 i cap) v) (ho:st.own[id]?=some (some es)) (hc:0<cap) (hie:i≤es.length) (hq:0<q) (hg:cap<i+q) (h62:i+q≤4611686018427387904) (hbt:(i+q)*n'≤140737488355328):
 ∃v' w' c' m,(Builtin.append_ #[t,tn] ty #[v,.int kq (q:Int)]).run P w= .ok v' w'∧Rel w0 im0 c' { st with own:=st.own++[some (es.take i++spare k (q+m))] } a w'∧VR c' (.mu st.own.length k 0 (i+q) (i+q+m)) v':=by
 obtain⟨hu,hs,hk0,ii,zv,hi,hz,hsize,hbytes,hzs⟩:=jf hai
 rcases hv.c0 with⟨g,hb,hcap,hve⟩|⟨_,hz2,_⟩
 rotate_left
 ·omega
 have hown:=r.own id g k _ hb ho
 obtain⟨cs,ty',lo,hi2,hblk,hfr,hsz,hlv,hcell⟩:=hown.bc
 rw[Nat.zero_mul] at hve
 have hoc:cH c k es cs.toList:=⟨hlv,fun i e j x he hx=>by obtain⟨u,h1,h2⟩:=hcell i e j x he hx;exact⟨u,by simpa using h1,h2⟩⟩
 have hq':cs.toList.length=cs.size:=Array.length_toList
 have hmul:i*k≤es.length*k:=Nat.mul_le_mul_right _ hie
 have hol:(cs.toList.take (i*k)).length=i*k:=by rw[List.length_take,hq'];omega
 have hof:(Builtin.firstCells ii.size i (.slice (some ⟨g,0,none⟩) i cap)).run P w.drew= .ok (cs.toList.take (i*k)).toArray w.drew:=by
  rw[hsize]
  exact run_firstCells_some w.drew k i ⟨g,0,none⟩ i _ _ hol (fun j u hj=>by
   rw[fQ,Nat.zero_add]
   rw[List.getElem?_take] at hj
   split at hj
   ·show w.cell? ⟨g,j,none⟩=some u
    simp only[World.cell?,hblk,Option.isSome_none,Bool.false_eq_true,if_false];simpa using hj
   ·simp at hj)
 have hbq:q*ii.bytes≤281474976710656:=by
  rw[hbytes]
  have:=Nat.mul_le_mul_right n' (show q≤i+q by omega)
  omega
 have hfit:Builtin.nextslicecap (i+q) cap*ii.bytes≤281474976710656:=growslice_fits hg (by rw[hbytes];exact hbt)
 have hrun:=Go.Lib.run_append_grow_zeros (P:=P) w t tn ty e ii zv kq kn hu htn hi hz (some ⟨g,0,none⟩) i cap _ hof q hq (by rw[hsize];exact hk0) hg ab hbq hfit
 have hC:=grownCap_ge w (i+q) cap e
 refine⟨_,_,_,grownCap w (i+q) cap e-(i+q),by rw[hve];exact hrun,(r.pI (k:=k) (g:=w.heap.size) (es:=es.take i++spare k (q+(grownCap w (i+q) cap e-(i+q)))) (sG w _) (Nat.le_refl _) ⟨_,e,0,0,lL w.drew _,.inl rfl,?_,?_⟩).2,?_⟩
 ·simp only[Array.size_append,List.size_toArray,hol,ou,hzs,List.length_append,List.length_take,cJ,Nat.min_eq_left hie,Nat.add_mul];omega
 ·have hcells:cH c k (es.take i++spare k (q+(grownCap w (i+q) cap e-(i+q)))) (cs.toList.take (i*k)++((Builtin.zeroCells zv.cells q).toList++(Builtin.zeroCells zv.cells (grownCap w (i+q) cap e-(i+q))).toList)):=
   (hoc.takeN i hie).append (by rw[hol,List.length_take,Nat.min_eq_left hie]) (cH.spare (by simp only[List.length_append,Array.length_toList,ou,hzs,Nat.add_mul];exact Nat.le_refl _))
  refine⟨hcells.1,fun i e j x he hx=>?_⟩
  obtain⟨u,h1,h2⟩:=hcells.2 i e j x he hx
  refine⟨u,?_,h2⟩
  rw[←Array.getElem?_toList]
  simpa using h1
 ·have:=VR.mu (c:={ c with β:=c.β++[some (w.heap.size,k)] }) (id:=st.own.length) (off:=0) (len:=i+q) (g:=w.heap.size) (k:=k) (cap:=grownCap w (i+q) cap e) (by show(c.β++[_])[_]?=_;rw[←r.ca];simp) hC
  rw[Nat.zero_mul] at this
  rw[show i+q+(grownCap w (i+q) cap e-(i+q))=grownCap w (i+q) cap e by omega]
  exact this
theorem HG(r:Rel w0 im0 c st a w){t tx ty e:TypeId}{k n':Nat}(hai:dd P t=some (e,k,n')){id off len cap id2 o j cy m:Nat}{es es2:List AV}{v xv:Value}
 (hv:VR c (.mu id k off len cap) v) (hxv:VR c (.mu id2 k o j cy) xv) (ho:st.own[id]?=some (some es)) (ho2:st.own[id2]?=some (some es2)) (hm:Nat.min j len=m) (hfit:off+m≤es.length) (hoj:o+m≤es2.length) (hpos:0<len) (hposj:0<j)
 (hna:∀e∈(es2.drop o).take m,∀x∈e.leaves,x≠.any):
 ∃w',(Builtin.copy_ #[t,tx] ty #[v,xv]).run P w= .ok (goInt m) w'∧Rel w0 im0 c { st with own:=st.own.set id (some (es.take off++((es2.drop o).take m++es.drop (off+m)))) } a w':=by
 obtain⟨hu,hs,hk0,ii,zv,hi,hz,hsize,hbytes,hzs⟩:=jf hai
 rcases hv.c0 with⟨g,hb,hcap,hve⟩|⟨hl0,_,_⟩
 rotate_left
 ·omega
 rcases hxv.c0 with⟨g2,hb2,hcap2,hxe⟩|⟨hl0,_,_⟩
 rotate_left
 ·omega
 have hown:=r.own id g k _ hb ho
 obtain⟨cs,ty',lo,hi',hblk,hfr,hsz,hlv,hcell⟩:=hown.bc
 have hown2:=r.own id2 g2 k _ hb2 ho2
 obtain⟨ds,ty2,lo2,hi2,hblk2,hfr2,hsz2,hlv2,hcell2⟩:=hown2.bc
 have hoc:cH c k es cs.toList:=⟨hlv,fun i e j x he hx=>by obtain⟨u,h1,h2⟩:=hcell i e j x he hx;exact⟨u,by simpa using h1,h2⟩⟩
 have hoc2:cH c k es2 ds.toList:=⟨hlv2,fun i e j x he hx=>by obtain⟨u,h1,h2⟩:=hcell2 i e j x he hx;exact⟨u,by simpa using h1,h2⟩⟩
 have hq:cs.toList.length=cs.size:=Array.length_toList
 have hq2:ds.toList.length=ds.size:=Array.length_toList
 have hmul:(off+m)*k≤es.length*k:=Nat.mul_le_mul_right _ hfit
 have hmul2:(o+m)*k≤es2.length*k:=Nat.mul_le_mul_right _ hoj
 rw[Nat.add_mul] at hmul hmul2
 obtain⟨news,hnews⟩:∃news,news=(ds.toList.drop (o*k)).take (m*k):=⟨_,rfl⟩
 have hnl:news.length=m*k:=by rw[hnews,List.length_take,List.length_drop,hq2];omega
 have hone:∀u∈news,u.oneCell'=true:=by
  intro u hu'
  obtain⟨q,hq'⟩:=List.mem_iff_getElem?.1 hu'
  rw[hnews,List.getElem?_take] at hq'
  split at hq'
  ·rename_i hqlt
   rw[List.getElem?_drop] at hq'
   have hdm:=Nat.div_add_mod q k
   have hmod:=Nat.mod_lt q hk0
   have hdiv:q/k<m:=Nat.div_lt_of_lt_mul (by rw[Nat.mul_comm];exact hqlt)
   have hel:es2[o+q/k]?=some (es2[o+q/k]' ab):=List.getElem?_eq_getElem ab
   have hlen:=hlv2 _ _ hel
   have hlf:(es2[o+q/k]' ab).leaves[q%k]?=some ((es2[o+q/k]' ab).leaves[q%k]' ab):=List.getElem?_eq_getElem ab
   obtain⟨v2,e1,e2,e3⟩:=hcell2 _ _ _ _ hel hlf
   have hidx:(o+q/k)*k+q%k=o*k+q:=by
    rw[Nat.add_mul,Nat.mul_comm (q/k) k];omega
   rw[hidx] at e1
   have:u=v2:=by
    have h1:ds.toList[o*k+q]?=some v2:=by simpa using e1
    rw[h1] at hq';exact(Option.some.inj hq').symm
   subst this
   refine e3.resolve_left (hna _ ?_ _ (List.mem_of_getElem? hlf))
   refine List.mem_iff_getElem?.2 ⟨q/k,?_⟩
   rw[List.getElem?_take,if_pos hdiv,List.getElem?_drop];exact hel
  ·simp at hq'
 have hfro:∀o,o<cs.toList.length→¬(lo≤o∧o<hi'):=fun o h1 h2=>by
  have h1:o<cs.size:=by simpa using h1
  rcases hfr with h|h<;>omega
 have hcs:cs=cs.toList.toArray:=by simp
 have hfit2:off*k+0+news.length≤cs.toList.length:=by rw[hnl,hq];omega
 have hst:=lT (P:=P) g (off*k) ty' lo hi' news 0 cs.toList w (by rw[←hcs];exact hblk) hfro hfit2 hone
 rw[Nat.add_zero] at hst
 have hfirst:(Builtin.firstCells k m xv).run P w= .ok news.toArray w:=by
  rw[hxe]
  exact run_firstCells_some w k m ⟨g2,o*k,none⟩ j _ _ hnl (fun p u hp=>by
   rw[fQ]
   rw[hnews,List.getElem?_take] at hp
   split at hp
   ·rw[List.getElem?_drop] at hp
    simp only[World.cell?,hblk2,Option.isSome_none,Bool.false_eq_true,if_false];simpa using hp
   ·simp at hp)
 have hlenx:(Builtin.lenOf xv).run P w= .ok j w:=by rw[hxe];simp[Builtin.lenOf]
 have hrun:(Builtin.copy_ #[t,tx] ty #[v,xv]).run P w= .ok (goInt m) (w.setRow g (cn cs.toList (off*k) news).toArray):=by
  have hso:=dO hs w
  subst hve
  simp only[Builtin.copy_,List.getElem?_toArray,List.getElem?_cons_zero,List.getElem?_cons_succ,Sem.run_bind,b6 hu,Result.andThen_ok,hlenx,hso,hm,hfirst,hst,Sem.run_pure]
 have hcs'len:(cn cs.toList (off*k) news).length=cs.size:=by rw[gB];simp
 have hOC:cH c k (es.take off++((es2.drop o).take m++es.drop (off+m))) (cn cs.toList (off*k) news):=by
  have e1:cn cs.toList (off*k) news=cs.toList.take (off*k)++(news++cs.toList.drop ((off+m)*k)):=by
   apply List.ext_getElem?
   intro p
   have htl:(cs.toList.take (off*k)).length=off*k:=by rw[List.length_take,hq];omega
   rw[jI _ _ _ _ (by simpa using hfit2)]
   by_cases hp:p<off*k
   ·rw[if_neg ab,List.getElem?_append_left (by rw[htl];exact hp),List.getElem?_take,if_pos hp]
   ·rw[List.getElem?_append_right (by rw[htl];omega),htl]
    by_cases hp2:p<off*k+news.length
    ·rw[if_pos ⟨by omega,hp2⟩,List.getElem?_append_left ab]
    ·rw[if_neg ab,List.getElem?_append_right ab,List.getElem?_drop,hnl,Nat.add_mul]
     congr 1;rw[hnl] at hp2;omega
  rw[e1]
  refine(hoc.takeN off ab).append (by rw[List.length_take,List.length_take,hq,Nat.min_eq_left (show off≤es.length by omega)];omega) ?_
  rw[hnews]
  refine((hoc2.drop o).takeN m (by rw[List.length_drop];omega)).append (by rw[←hnews,hnl,List.length_take,List.length_drop,Nat.min_eq_left ab]) (hoc.drop (off+m))
 have hnewlen:(es.take off++((es2.drop o).take m++es.drop (off+m))).length=es.length:=by simp only[List.length_append,List.length_take,List.length_drop];omega
 have hset:=r.l9 (w':=w.setRow g (cn cs.toList (off*k) news).toArray) (es':=es.take off++((es2.drop o).take m++es.drop (off+m))) hb ho (fun b hne=>setRow_other w g b _ hne) (below_setRow r.below hown.new _)
  ⟨(cn cs.toList (off*k) news).toArray,ty',lo,hi',setRow_heap w g cs _ ty' (lo,hi') hblk,by
    rcases hfr with h|h
    ·exact .inl h
    ·exact .inr (by simpa[gB] using h),by
    rw[hnewlen];simp only[List.size_toArray,hcs'len];exact hsz,hOC.1,fun i e j x he hx=>by
    obtain⟨u,h1,h2⟩:=hOC.2 i e j x he hx
    exact⟨u,by simpa using h1,h2⟩⟩
 exact⟨_,hrun,hset⟩
theorem Px(r:Rel w0 im0 c st a w){t tR e:TypeId}{t0:Option Nat}{k id off len cap:Nat}{es xs:List AV}{v xv:Value}(hu:P.underlying t=some (.slice e))(hs:bK P e=some k)(hk:1<k)
 (hxv:VR c (.sl t0 k xs) xv) (hv:VR c (.mu id k off len cap) v) (ho:st.own[id]?=some (some es)) (hx0:xs≠[]) (hlen:0<len) (hoff:off<es.length):
 (Extern.SlicesOverlaps.overlaps #[t,t] #[tR] #[xv,v]).run P w= .ok (.bool false) w:=by
 rcases hv.c0 with⟨g,hb,hcap,hve⟩|⟨hl0,_,_⟩
 rotate_left
 ·omega
 have hown:=r.own id g k _ hb ho
 obtain⟨cs,ty',lo,hi',hblk,hfr,hsz,hlv,hcell⟩:=hown.bc
 have hlh:lo=hi':=by rcases hfr with h|h<;>omega
 have hmul:(off+1)*k≤es.length*k:=Nat.mul_le_mul_right _ hoff
 rw[Nat.add_mul] at hmul
 have h:=hxv.fT
 cases h with
 |dw=>exact absurd rfl hx0
 |sl _ _ b o cap2 cv hc2 hk2 hm2 h12 hv2=>
  obtain⟨x,xs',rfl⟩:∃x xs',xs=x::xs':=by cases xs with|nil=>exact absurd rfl hx0|cons x xs'=>exact⟨_,_,rfl⟩
  have hlx:=hk2 0 x rfl
  have him:=hm2 0 x 0 (x.leaves[0]' ab) rfl (List.getElem?_eq_getElem ab)
  have hcell2:=r.cu _ _ _ him
  have hne:b≠g:=fun e=>by subst e;rw[hown.im] at him;simp at him
  obtain⟨ds,ty2,fr2,hblk2,hds⟩:∃ds ty2 fr2,w.heap[b]?=some (.cells ds ty2 fr2)∧ds.size≠0:=by
   unfold World.cell? at hcell2
   cases hbb:w.heap[b]? with
   |none=>simp[hbb] at hcell2
   |some ob=>
    cases ob with
    |cells ds ty2 fr2=>
     refine⟨ds,ty2,fr2,rfl,fun h0=>?_⟩
     have:ds= #[]:=Array.eq_empty_of_size_eq_zero h0
     subst this
     simp[hbb] at hcell2
    |_=>simp[hbb] at hcell2
  subst hve
  have hnb:(b !=g)=true:=by simpa using hne
  have hnb':(b==g)=false:=by simpa using hne
  have hsa:w.shape? b=some (ty2,ds.size):=by simp only[World.shape?,hblk2]
  have hsb:w.shape? g=some (ty',cs.size):=by simp only[World.shape?,hblk]
  have hfb:∀o,w.frozen? ⟨g,o,none⟩=false:=fun o=>by simp only[World.frozen?,hblk];subst hlh;simp
  obtain⟨n1,hn1⟩:∃n,ds.size=n+1:=⟨ds.size-1,by omega⟩
  obtain⟨n2,hn2⟩:∃n,cs.size=n+1:=⟨cs.size-1,by omega⟩
  rw[hn1] at hsa;rw[hn2] at hsb
  have hz:=dO hs
  change Sem.run P (α:=Value) (do
   let some t:=(#[t,t]:Array TypeId)[0]?|stuck "slices.overlaps: no parameter types"
   let .slice elem ←underlying t|stuck "slices.overlaps: slice type expected"
   let size ←sizeOf elem
   match(some ⟨b,o,none⟩:Option Addr),(some ⟨g,off*k,none⟩:Option Addr) with
   |some a,some b=>
    if(x::xs').length=0∨len=0∨size=0 then pure (Value.bool false)
    else if a.block !=b.block&&(←frozen a)&&(←frozen b) then unsupported .addressObserved
    else do
     if a.block !=b.block then do
      noView a;noView b
      if ←mayBeOne a b then return Value.bool ((←choose (.extern "sameAddr.stringBytes" 2))==1)
     pure (Value.bool (a.block==b.block&&a.off<b.off+len*size&&b.off<a.off+(x::xs').length*size))
   |_,_=>pure (Value.bool false)) w=_
  have hk0:¬k=0:=by omega
  have hl0:¬len=0:=by omega
  simp only[List.length_cons,Nat.succ_ne_zero,hl0,hk0,false_or,or_self,if_false]
  by_cases hfa:w.frozen? ⟨b,o,none⟩=true<;>by_cases hfe:w.frozen? ⟨b,n1+1,none⟩=true<;>
   simp[b6 hu,hz,hnb,hnb',frozen,noView,viewAt,mayBeOne,stringish,shape,Sem.run,hsa,hsb,hfa,hfe,hfb]
end
section
variable{E:Env}{Q:Exit→St→Prop}{st:St}{ops:Array Oper}{l:List Oper}
theorem an.EI{dst:Option Tmp}{t tn ty:TypeId}{x y:Operand}{pos:String}{after:Array Edge}{e:TypeId}{k n id i cap q:Nat}{es:List AV}{kn kq:IntKind}
 (hai:dd E.P t=some (e,k,n)) (htn:E.P.underlying tn=some (.int kn)) (hx:st.ev x= .mu id k 0 i cap) (hy:st.ev y= .v (.int kq (q:Int))) (ho:st.own[id]?=some (some es)) (hc:0<cap) (hie:i≤es.length) (hq:0<q) (hg:cap<i+q) (h62:i+q≤4611686018427387904) (hbt:(i+q)*n≤140737488355328)
 (h:∀m,an E ops l Q (St.put { st with own:=st.own++[some (es.take i++spare k (q+m))] } dst (.mu st.own.length k 0 (i+q) (i+q+m)))):an E ops (⟨dst,.call ⟨.builtin .append,#[x,y],#[t,tn]⟩,ty,pos,after,none⟩::l) Q st:=by
 intro w0 im0 cx a w h0 hG r
 refine wpList_step (fun K' hK'=>?_)
 have hw:Region.wanted ⟨dst,.call ⟨.builtin .append,#[x,y],#[t,tn]⟩,ty,pos,after,none⟩ (yielded ops a.tmps)=true:=rfl
 rw[if_pos hw]
 have hv:=r.ev x
 rw[hx] at hv
 have ey:a.eval y= .int kq (q:Int):=by have:=r.ev y;rw[hy] at this;exact this.bD
 obtain⟨v',w',c',m,h1,h2,h3⟩:=QT (P:=E.P) (ty:=ty) (kq:=kq) r hai htn hv ho hc hie hq hg h62 hbt
 refine eT (w':=w') (v:=v') ?_ (hK' _ _ (h m w0 im0 _ _ _ h0 hG (h2.put dst h3)))
 simp only[execOp,resolve,Sem.run_bind,Sem.run_pure,Result.andThen_ok,invoke,builtin,List.map_toArray,List.map_cons,List.map_nil,ey,h1]
theorem an.CY{dst:Option Tmp}{t tx ty:TypeId}{x y:Operand}{pos:String}{after:Array Edge}{e:TypeId}{k n id off len cap id2 o j cy:Nat}(m:Nat){es es2:List AV}
 (hai:dd E.P t=some (e,k,n)) (hx:st.ev x= .mu id k off len cap) (hy:st.ev y= .mu id2 k o j cy) (ho:st.own[id]?=some (some es)) (ho2:st.own[id2]?=some (some es2)) (hm:Nat.min j len=m) (hfit:off+m≤es.length) (hoj:o+m≤es2.length) (hpos:0<len) (hposj:0<j)
 (hna:∀e∈(es2.drop o).take m,∀x∈e.leaves,x≠.any)
 (h:an E ops l Q (St.put { st with own:=st.own.set id (some (es.take off++((es2.drop o).take m++es.drop (off+m)))) } dst (.v (goInt m)))):an E ops (⟨dst,.call ⟨.builtin .copy,#[x,y],#[t,tx]⟩,ty,pos,after,none⟩::l) Q st:=by
 intro w0 im0 cx a w h0 hG r
 refine wpList_step (fun K' hK'=>?_)
 have hw:Region.wanted ⟨dst,.call ⟨.builtin .copy,#[x,y],#[t,tx]⟩,ty,pos,after,none⟩ (yielded ops a.tmps)=true:=rfl
 rw[if_pos hw]
 have hv:=r.ev x
 rw[hx] at hv
 have hvy:=r.ev y
 rw[hy] at hvy
 obtain⟨w',hrun,r2⟩:=HG (P:=E.P) (tx:=tx) (ty:=ty) r hai hv hvy ho ho2 hm hfit hoj hpos hposj hna
 refine eT (w':=w') (v:=goInt m) ?_ (hK' _ _ (h w0 im0 _ _ _ h0 hG (r2.put dst (.base (.v _)))))
 simp[execOp,resolve,invoke,Sem.run_bind,builtin,hrun]
theorem an.SD{dst:Option Tmp}{t ty:TypeId}{x hi:Operand}{pos:String}{after:Array Edge}{e:TypeId}{k id off len cap h':Nat}
 (hu:E.P.underlying t=some (.slice e)) (hsz:bK E.P e=some k) (hs:st.ev x= .mu id k off len cap) (hh:st.ev hi=i64 (h':Int)) (h2:h'≤cap) (h3:0<cap)
 (h:an E ops l Q (st.put dst (.mu id k off h' cap))):an E ops (⟨dst,.slice t x none (some hi) none,ty,pos,after,none⟩::l) Q st:=by
 intro w0 im0 cx a w h0' hG r
 refine wpList_step (fun K' hK'=>?_)
 have hw:Region.wanted ⟨dst,.slice t x none (some hi) none,ty,pos,after,none⟩ (yielded ops a.tmps)=true:=rfl
 rw[if_pos hw]
 have hv:=r.ev x
 rw[hs] at hv
 have e2:a.eval hi= .int .i64 (h':Int):=by have:=r.ev hi;rw[hh] at this;exact this.bD
 rcases hv.c0 with⟨g,hb,hcap,hve⟩|⟨hz,hz2,_⟩
 rotate_left
 ·omega
 have hrun:(Instr.sliceAt t (a.eval x) none (some (a.eval hi)) none).run E.P w= .ok (.slice (some ⟨g,off*k,none⟩) h' cap) w:=by
  rw[e2,hve]
  have hbd:(Instr.sliceBounds true len cap none (some (.int .i64 (h':Int))) none).run E.P w= .ok (0,h',cap) w:=by
   have e1:∀code,(Instr.sliceBound (.int .i64 (h':Int)) cap code).run E.P w= .ok h' w:=fun code=>(j6 ab ab).trans aD
   simp[Instr.sliceBounds,Sem.run_bind,e1]
  simp only[Instr.sliceAt,Sem.run_bind,b6 hu,Result.andThen_ok,Instr.slice,hbd,dO hsz,Sem.run_pure]
  have hne:¬cap=0:=by omega
  simp[hne,Addr.add]
 refine eT (w':=w) (v:= .slice (some ⟨g,off*k,none⟩) h' cap) ?_ (hK' _ _ (h w0 im0 _ _ _ h0' hG (r.put dst (.mu hb ab))))
 simp only[execOp,Option.map_some,Option.map_none,Sem.run_bind,hrun,Result.andThen_ok,Sem.run_pure]
theorem an.C9{dst:Option Tmp}{t ty:TypeId}{x:Operand}{pos:String}{after:Array Edge}{e:TypeId}{k id off len cap:Nat}
 (hu:E.P.underlying t=some (.slice e)) (hs:st.ev x= .mu id k off len cap)
 (h:an E ops l Q (st.put dst (i64 (cap:Int)))):an E ops (⟨dst,.call ⟨.builtin .cap,#[x],#[t]⟩,ty,pos,after,none⟩::l) Q st:=by
 intro w0 im0 cx a w h0 hG r
 refine wpList_step (fun K' hK'=>?_)
 have hw:Region.wanted ⟨dst,.call ⟨.builtin .cap,#[x],#[t]⟩,ty,pos,after,none⟩ (yielded ops a.tmps)=true:=rfl
 rw[if_pos hw]
 have hv:=r.ev x
 rw[hs] at hv
 have hrun:(Builtin.cap_ #[t] ty #[a.eval x]).run E.P w= .ok (goInt cap) w:=by
  rcases hv.c0 with⟨g,_,_,hve⟩|⟨_,hz2,hve⟩
  ·rw[hve];simp[Builtin.cap_,b6 hu]
  ·subst hz2;rw[hve];simp[Builtin.cap_,b6 hu]
 refine eT (w':=w) (v:=goInt cap) ?_ (hK' _ _ (h w0 im0 _ _ _ h0 hG (r.put dst (.base (.v _)))))
 simp[execOp,resolve,invoke,Sem.run_bind,builtin,hrun]
theorem an.TP{dst:Option Tmp}{t ty:TypeId}{x lo:Operand}{pos:String}{after:Array Edge}{e:TypeId}{k id off len cap l':Nat}
 (hu:E.P.underlying t=some (.slice e)) (hsz:bK E.P e=some k) (hs:st.ev x= .mu id k off len cap) (hl:st.ev lo=i64 (l':Int)) (h1:l'≤len)
 (h:an E ops l Q (st.put dst .any)):an E ops (⟨dst,.slice t x (some lo) none none,ty,pos,after,none⟩::l) Q st:=by
 intro w0 im0 cx a w h0' hG r
 refine wpList_step (fun K' hK'=>?_)
 have hw:Region.wanted ⟨dst,.slice t x (some lo) none none,ty,pos,after,none⟩ (yielded ops a.tmps)=true:=rfl
 rw[if_pos hw]
 have hv:=r.ev x
 rw[hs] at hv
 have e1:a.eval lo= .int .i64 (l':Int):=by have:=r.ev lo;rw[hl] at this;exact this.bD
 have hval:∃u,(Instr.sliceAt t (a.eval x) (some (a.eval lo)) none none).run E.P w= .ok u w:=by
  rw[e1]
  have key:∀(b:Option Addr) (len cap:Nat),l'≤len→∃u,(Instr.sliceAt t (.slice b len cap) (some (.int .i64 (l':Int))) none none).run E.P w= .ok u w:=by
   intro b len cap hm3
   refine⟨.slice (if cap=l' then b else b.map (·.add (l'*k))) (len-l') (cap-l'),?_⟩
   simp only[Instr.sliceAt,Sem.run_bind,b6 hu,Result.andThen_ok,Instr.slice,A3 (P:=E.P) (w:=w) hm3,dO hsz,Sem.run_pure]
  rcases hv.c0 with⟨g,hb,hcap,hve⟩|⟨hz,hz2,hve⟩
  ·rw[hve];exact key _ _ _ h1
  ·rw[hve];exact key _ _ _ ab
 obtain⟨u,hrun⟩:=hval
 refine eT (w':=w) (v:=u) ?_ (hK' _ _ (h w0 im0 _ _ _ h0' hG (r.put dst (.base (.any _)))))
 simp only[execOp,Option.map_some,Option.map_none,Sem.run_bind,hrun,Result.andThen_ok,Sem.run_pure]
theorem an.Vq{dst:Option Tmp}{t tR ty:TypeId}{x y:Operand}{tys:Array TypeId}{pos:String}{after:Array Edge}{g:FuncId}{e:TypeId}{t0:Option Nat}{k id off len cap:Nat}{es xs:List AV}
 (hcf:∀(v u:Value) (w:World),(Extern.SlicesOverlaps.overlaps #[t,t] #[tR] #[v,u]).run E.P w= .ok (.bool false) w→(callFunc g #[v,u]).run E.P w= .ok (.value (.bool false)) w)
 (hu:E.P.underlying t=some (.slice e)) (hs:bK E.P e=some k) (hk:1<k) (hx:st.ev x= .sl t0 k xs) (hy:st.ev y= .mu id k off len cap) (ho:st.own[id]?=some (some es)) (hx0:xs≠[]) (hlen:0<len) (hoff:off<es.length)
 (h:an E ops l Q (st.put dst (.v (.bool false)))):an E ops (⟨dst,.call ⟨.value (.func g),#[x,y],tys⟩,ty,pos,after,none⟩::l) Q st:=by
 intro w0 im0 cx a w h0 hG r
 refine wpList_step (fun K' hK'=>?_)
 have hw:Region.wanted ⟨dst,.call ⟨.value (.func g),#[x,y],tys⟩,ty,pos,after,none⟩ (yielded ops a.tmps)=true:=rfl
 rw[if_pos hw]
 have hxv:=r.ev x
 rw[hx] at hxv
 have hyv:=r.ev y
 rw[hy] at hyv
 have hrun:=Px (P:=E.P) (tR:=tR) r hu hs hk hxv hyv ho hx0 hlen hoff
 have hc:=hcf _ _ w hrun
 refine eT (w':=w) (v:= .bool false) ?_ (hK' _ _ (h w0 im0 _ _ _ h0 hG (r.put dst (.base (.v _)))))
 have he':a.eval (.func g)= .func (.func g) #[] #[]:=rfl
 have hargs:Array.map a.eval #[x,y]= #[a.eval x,a.eval y]:=by simp
 simp only[execOp,resolve,he',Deferred.ofValue,Sem.run_bind,Sem.run_pure,Result.andThen_ok,invoke,Array.empty_append,Array.append_empty,hargs,hc]
end
theorem Nn{P:Program}{o:Oper}{a:Act}{w:World}{K K':Act→World→Prop}{Q Q':Exit→Act→World→Prop}(h:∀a w,K a w→K' a w)(hp:∀c a w,Q (.panic c) a w→Q' (.panic c) a w)(hl:LetsOut Q→LetsOut Q')
 (hh:o.wp P a w K Q):o.wp P a w K' Q':=by
 unfold Oper.wp at *
 generalize (execOp a.eval o).run P w=r at *
 cases r with
 |ok n w'=>
  cases n<;>simp only[Oper.upon] at hh ⊢ <;>
   first
    |exact h _ _ hh
    |exact Calls.mono hh (fun e w'' he=>by cases e<;>first|exact h _ _ he|exact hp _ _ _ he|exact hl he)
    |exact Rows.mono hh (fun _ _ he=>h _ _ he)
 |halt x w'=>cases x<;>simp only[Oper.upon] at hh ⊢ <;>first|exact hp _ _ _ hh|exact hh
def cj(E:Env)(ops:Array Oper)(o:Oper)(s s':St):Prop:=∀Q:Exit→St→Prop,Q .normal s'→an E ops [o] Q s
theorem cj.list{E:Env}{ops:Array Oper}{o:Oper}{s s':St}(h:cI E ops [o] s fun z=>z=s'):cj E ops o s s':=fun Q hQ=>by
 obtain⟨q,hq,h1,h2⟩:=h
 refine an.of ⟨q,hq,fun e=>oT (h1 e) fun z hz=>?_,fun e=>?_⟩
 ·have hz:z=s':=hz
  subst hz;exact hQ
 ·have hz:s.put o.dst (.v undef)=s':=h2 e
  show Q .normal _
  rw[hz];exact hQ
theorem cj.call{E:Env}{ops:Array Oper}{o:Oper}{s s':St}(h:∀Q:Exit→St→Prop,an E ops [] Q s'→an E ops [o] Q s):cj E ops o s s':=fun Q hQ=>h Q (an.of hQ)
def cX:List (Option Tmp)→Nat→Tmp→Option Nat
 |[],_,_=>none
 |d::r,i,t=>if d=some t then some i else cX r (i+1) t
def gP(ds:List (Option Tmp))(vals:List AV)(L:Nat→Bool)(t:Nat)(x:AV):AV:=match cX ds 0 t with|some i=>if L i then vals.getD i .any else x|none=>x
def p8(ds:List (Option Tmp))(vals:List AV)(anc:List (List Nat))(i:Nat)(st:St)(t:Tmp):AV:=match cX ds 0 t with|some j=>if(anc.getD i []).contains j then vals.getD j .any else st.tmps.getD t .any|none=>st.tmps.getD t .any
def iU(L:Nat→Bool)(i:Nat):Nat→Bool:=fun j=>if j=i then true else L j
def ew(ds:List (Option Tmp))(vals:List AV)(cs:List Nat)(ow:Nat→List (Option (List AV)))(st:St)(L:Nat→Bool):St:={ st with tmps:=st.tmps.mapIdx (gP ds vals L),own:=ow (cs.countP L) }
def dstsOf(ops:Array Oper):List (Option Tmp):=ops.toList.map (·.dst)
def Bm(ops:Array Oper)(anc:List (List Nat))(cs:List Nat):Bool:=
 gD ops anc&&(List.range ops.size).all (fun i=>match ops[i]? with
  |none=>false
  |some o=>o.dst.isSome&&(match o.dst with|some d=>cX (dstsOf ops) 0 d==some i|none=>true)&&o.after.toList.all (fun e=>!Region.binds .any e||decide (e.on<i)) &&
   (Oper.looksAt ops o).all (fun t=>match cX (dstsOf ops) 0 t with|some j=>(anc.getD i []).contains j||(anc.getD j []).contains i|none=>true)) &&
 (List.range cs.length).all (fun k=>(List.range k).all fun j=>(anc.getD (cs.getD k 0) []).contains (cs.getD j 0))&&decide cs.Nodup&&cs.all (fun i=>decide (i<ops.size))
section
variable{E:Env}{ops:Array Oper}{anc:List (List Nat)}{cs:List Nat}{ow:Nat→List (Option (List AV))}{vals:List AV}{st:St}
theorem LO{L:Nat→Bool}{t:Tmp}{i:Nat}(h:∀j,cX (dstsOf ops) 0 t=some j→L j=(anc.getD i []).contains j):(ew (dstsOf ops) vals cs ow st L).tmps.getD t .any=if t<st.tmps.length then p8 (dstsOf ops) vals anc i st t else .any:=by
 simp only[ew,List.getD_eq_getElem?_getD,List.getElem?_mapIdx]
 by_cases ht:t<st.tmps.length
 ·rw[if_pos ht,List.getElem?_eq_getElem ht]
  simp only[Option.map_some,Option.getD_some,gP,p8]
  cases hl:cX (dstsOf ops) 0 t with
  |none=>simp[List.getD_eq_getElem?_getD,List.getElem?_eq_getElem ht]
  |some j=>
   simp only[h j hl]
   split<;>simp_all[List.getD_eq_getElem?_getD,List.getElem?_eq_getElem ht]
 ·rw[if_neg ht,List.getElem?_eq_none (Nat.le_of_not_lt ht)]
  rfl
theorem Hv{L:Nat→Bool}{i:Nat}(h:i∉cs):cs.countP (iU L i)=cs.countP L:=by
 apply List.countP_congr
 intro j hj
 have:j≠i:=fun e=>h (e ▸ hj)
 simp[iU,this]
theorem Pu{L:Nat→Bool}{i:Nat}{d:Tmp}(h:cX (dstsOf ops) 0 d=some i):(st.tmps.mapIdx (gP (dstsOf ops) vals L)).set d (vals.getD i .any)=st.tmps.mapIdx (gP (dstsOf ops) vals (iU L i))∨¬(∀t,cX (dstsOf ops) 0 t=some i→t=d):=by
 by_cases hu:∀t,cX (dstsOf ops) 0 t=some i→t=d
 ·left
  apply List.ext_getElem?
  intro t
  rw[List.getElem?_set]
  simp only[List.getElem?_mapIdx,List.length_mapIdx]
  by_cases htd:d=t
  ·subst htd
   rw[if_pos rfl]
   by_cases hd:d<st.tmps.length
   ·simp[hd,gP,h,iU]
   ·simp[hd]
  ·rw[if_neg htd]
   cases hx:st.tmps[t]? with
   |none=>rfl
   |some x=>
    simp only[Option.map_some,Option.some.injEq,gP]
    cases hl:cX (dstsOf ops) 0 t with
    |none=>rfl
    |some j=>
     have:j≠i:=fun e=>htd (hu t (e ▸ hl)).symm
     simp[iU,this]
 ·exact .inr hu
theorem s9:∀{ds:List (Option Tmp)} {k t i:Nat},cX ds k t=some i→∃j,i=k+j∧ds[j]?=some (some t)
 |[],_,_,_,h=>by simp[cX] at h
 |d::r,k,t,i,h=>by
  unfold cX at h
  split at h
  ·rename_i e
   simp only[Option.some.injEq] at h
   exact⟨0,by omega,by simp[e]⟩
  ·obtain⟨j,e1,e2⟩:=s9 h
   exact⟨j+1,by omega,by simpa using e2⟩
theorem P6{ds:List (Option Tmp)}{t i:Nat}(h:cX ds 0 t=some i):i<ds.length:=by
 obtain⟨j,e1,e2⟩:=s9 h
 have:=(List.getElem?_eq_some_iff.1 e2).1
 omega
theorem OB{L:Nat→Bool}(hl:(dstsOf ops).length=vals.length){p:AV→Bool}(h1:st.tmps.all p=true)(h2:vals.all p=true):(ew (dstsOf ops) vals cs ow st L).tmps.all p=true:=by
 rw[List.all_eq_true] at *
 intro x hx
 obtain⟨t,ht⟩:=List.mem_iff_getElem?.1 hx
 simp only[ew,List.getElem?_mapIdx] at ht
 cases hy:st.tmps[t]? with
 |none=>rw[hy] at ht;simp at ht
 |some y=>
  rw[hy] at ht
  simp only[Option.map_some,Option.some.injEq] at ht
  have hy2:=h1 y (List.mem_of_getElem? hy)
  rw[←ht]
  unfold gP
  cases hk:cX (dstsOf ops) 0 t with
  |none=>exact hy2
  |some i=>
   simp only[]
   split
   ·have hi:i<vals.length:=by rw[←hl];exact P6 hk
    have:vals.getD i .any∈vals:=List.mem_iff_getElem?.2 ⟨i,by simp[List.getD_eq_getElem?_getD,List.getElem?_eq_getElem hi]⟩
    exact h2 _ this
   ·exact hy2
theorem LS{w0:World}{im0:dt}(h0:E.ok w0)(hG:lF E im0){Q:Exit→St→Prop}(hv:gD ops anc=true)
 (hlt:∀(i:Nat) (o:Oper),ops[i]?=some o→∀e∈o.after,Region.binds .any e=true→e.on<i)
 (hstep:∀(i:Nat) (o:Oper),ops[i]?=some o→∀L:Nat→Bool,L i=false→(∀p∈anc.getD i [],L p=true)→(∀m,L m=true→∀p∈anc.getD m [],L p=true)→cj E ops o (ew (dstsOf ops) vals cs ow st L) (ew (dstsOf ops) vals cs ow st (iU L i)))
 (hQ:∀L:Nat→Bool,(∀i,i<ops.size→L i=true)→Q .normal (ew (dstsOf ops) vals cs ow st L)):
 ∀(n:Nat) (L:Array Bool) (c:Ctx) (a:Act) (w:World),L.size=ops.size→L.toList.count false=n→jF anc L→Rel w0 im0 c (ew (dstsOf ops) vals cs ow st fun j=>L.getD j false) a w→
  wpAny E.P .any ops (fun e a w=>gS w0 im0 (Q e) a w) n L a w:=by
 have hall:∀L:Array Bool,L.size=ops.size→Region.ready .any ops L=[]→∀i,i<ops.size→L.getD i false=true:=by
  intro L hs hr i
  induction i using Nat.strongRecOn with
  |ind i ih=>
   intro hi
   cases hb:L.getD i false with
   |true=>rfl
   |false=>
    exfalso
    have:i∈Region.ready .any ops L:=by
     rw[mem_ready]
     refine⟨?_,ops[i],by simp[hi],fun e he hbd=>?_⟩
     ·have hi':i<L.size:=by omega
      simpa[Array.getD,hi'] using hb
     ·have:=hlt i ops[i] (by simp[hi]) e he hbd
      exact ih e.on this ab
    rw[hr] at this;simp at this
 have hset:∀(L:Array Bool) (i:Nat),i<L.size→(fun j=>(L.setIfInBounds i true).getD j false)=iU (fun j=>L.getD j false) i:=by
  intro L i hi
  funext j
  simp only[iU,Array.getD_eq_getD_getElem?,Array.getElem?_setIfInBounds]
  by_cases hj:j=i
  ·subst hj;simp[hi]
  ·rw[if_neg (fun e=>hj e.symm),if_neg hj]
 intro n
 induction n with
 |zero=>
  intro L c a w hs hc hw r
  have hno:∀i,i<ops.size→L.getD i false=true:=by
   intro i hi
   have hi':i<L.size:=by omega
   have:=List.count_eq_zero.1 hc
   cases hb:L[i] with
   |true=>simp[Array.getD,hi',hb]
   |false=>exact absurd (List.mem_iff_getElem.2 ⟨i,by simpa using hi',by simpa using hb⟩) this
  refine⟨?_,⟨c,_,r,hQ _ hno⟩⟩
  cases hr:Region.ready .any ops L with
  |nil=>rfl
  |cons i rest=>
   exfalso
   have hi:i∈Region.ready .any ops L:=by rw[hr];exact List.mem_cons_self ..
   obtain⟨h1,o,ho,_⟩:=mem_ready.1 hi
   have hio:i<ops.size:=(Array.getElem?_eq_some_iff.1 ho).1
   have:=hno i hio
   have hi':i<L.size:=by omega
   simp only[Array.getD,hi',dite_true] at h1 this
   rw[h1] at this;simp at this
 |succ n ih=>
  intro L c a w hs hc hw r
  refine⟨fun hr=>⟨c,_,r,hQ _ (hall L hs hr)⟩,fun i hi=>?_⟩
  obtain⟨h1,o,ho,hedge⟩:=mem_ready.1 hi
  have hio:i<ops.size:=(Array.getElem?_eq_some_iff.1 ho).1
  have hi':i<L.size:=by omega
  have hLi:L.getD i false=false:=by simpa[Array.getD,hi'] using h1
  have hf:=hstep i o ho (fun j=>L.getD j false) hLi (qU hv hw hi) hw
  have hL2:=hset L i hi'
  rw[←hL2] at hf
  have hcount:(L.setIfInBounds i true).toList.count false=n:=by
   have hget:L.toList[i]'(by simpa using hi')=false:=by
    have:L[i]=false:=by simpa[Array.getD,hi'] using h1
    simpa using this
   rw[Array.toList_setIfInBounds,List.count_set (h:=by simpa using hi'),hc,hget]
   simp
  unfold wpOp
  rw[ho]
  simp only[]
  have hh:=hf (fun e z=>match e with|.normal=>z=ew (dstsOf ops) vals cs ow st (fun j=>(L.setIfInBounds i true).getD j false)|e=>Q e z) rfl w0 im0 c a w h0 hG r
  unfold wpList at hh
  have next:∀a' w',gS w0 im0 (fun z=>z=ew (dstsOf ops) vals cs ow st (fun j=>(L.setIfInBounds i true).getD j false)) a' w'→wpAny E.P .any ops (fun e a w=>gS w0 im0 (Q e) a w) n (L.setIfInBounds i true) a' w':=by
   rintro a' w' ⟨c',s,r',rfl⟩
   exact ih _ c' a' w' (by simpa using hs) hcount (hw.add hv hi) r'
  split at hh
  ·rename_i hwant
   rw[if_pos hwant]
   rcases hh with hh|⟨hh1,a',w',hh2⟩
   ·refine .inl (Nn (fun a' w' hz=>next a' w' ?_) (fun _ _ _ h=>h) (fun⟨a',w',h⟩=>⟨a',w',h⟩) hh)
    exact hz
   ·exact .inr ⟨hh1,a',w',hh2⟩
  ·rename_i hwant
   rw[if_neg hwant]
   exact next _ _ hh
def iz:List (Option Tmp)→List AV→List AV→List AV
 |some d::ds,v::vs,ts=>iz ds vs (ts.set d v)
 |none::ds,_::vs,ts=>iz ds vs ts
 |_,_,ts=>ts
theorem sT:∀(ds:List (Option Tmp)) (k t:Nat),cX ds (k+1) t=(cX ds k t).map (· +1)
 |[],_,_=>rfl
 |d::r,k,t=>by
  unfold cX
  split
  ·rfl
  ·exact sT r (k+1) t
theorem B0:∀{ds:List (Option Tmp)} {k t:Nat},some t∉ds→cX ds k t=none
 |[],_,_,_=>rfl
 |d::r,k,t,h=>by
  simp only[List.mem_cons,not_or] at h
  unfold cX
  rw[if_neg (fun e=>h.1 e.symm)]
  exact B0 h.2
theorem tN:∀(ds:List (Option Tmp)) (vs ts:List AV) (t:Nat),ds.length=vs.length→(∀d,some d∈ds→ds.count (some d)≤1)→(iz ds vs ts)[t]?=(ts[t]?).map fun x=>gP ds vs (fun _=>true) t x
 |[],vs,ts,t,hl,hn=>by
  cases h:ts[t]?<;>simp[iz,gP,cX,h]
 |d::ds,[],ts,t,hl,hn=>by simp at hl
 |none::ds,v::vs,ts,t,hl,hn=>by
  have ih:=tN ds vs ts t (by simpa using hl) (fun d hd=>by have:=hn d (List.mem_cons_of_mem _ hd);simpa[List.count_cons] using this)
  show(iz ds vs ts)[t]?=_
  rw[ih]
  congr 1
  funext x
  have e:cX (none::ds) 0 t=(cX ds 0 t).map (· +1):=by
   show(if none=some t then _ else cX ds (0+1) t)=_
   rw[if_neg aD,sT]
  unfold gP
  rw[e]
  cases cX ds 0 t<;>simp
 |some d::ds,v::vs,ts,t,hl,hn=>by
  have hnd:some d∉ds:=by
   have:=hn d (List.mem_cons_self ..)
   rw[List.count_cons_self] at this
   exact List.count_eq_zero.1 ab
  have ih:=tN ds vs (ts.set d v) t (by simpa using hl) (fun d' hd=>by
   have:=hn d' (List.mem_cons_of_mem _ hd)
   rw[List.count_cons] at this;omega)
  show(iz ds vs (ts.set d v))[t]?=_
  rw[ih,List.getElem?_set]
  by_cases htd:d=t
  ·subst htd
   have e:cX (some d::ds) 0 d=some 0:=by
    show(if some d=some d then _ else _)=_
    rw[if_pos rfl]
   by_cases hd:d<ts.length
   ·simp[hd,gP,e,B0 hnd]
   ·simp[hd]
  ·have e:cX (some d::ds) 0 t=(cX ds 0 t).map (· +1):=by
    show(if some d=some t then _ else cX ds (0+1) t)=_
    rw[if_neg (by simpa using htd),sT]
   rw[if_neg htd]
   congr 1
   funext x
   unfold gP
   rw[e]
   cases cX ds 0 t<;>simp
theorem aa.p4{id:Nat}{Q:Exit→St→Prop}(anc:List (List Nat))(vals:List AV)(cs:List Nat)(ow:Nat→List (Option (List AV)))(hm:E.P.follows .mixedOrders=true)(hk:Bm ops anc cs=true)(hvl:(dstsOf ops).length=vals.length)
 (hown:st.own=ow 0) (hrsv:st.bZ=none)
 (hp:∀(i:Nat) (o:Oper),ops[i]?=some o→i∉cs→∀s:St,s.gl=st.gl→(∃k,s.own=ow k)→s.tk=st.tk→s.bZ=none→(∀t∈Oper.looksAt ops o,s.tmps.getD t .any=if t<st.tmps.length then p8 (dstsOf ops) vals anc i st t else .any)→cj E ops o s (s.put o.dst (vals.getD i .any)))
 (hc:∀(k i:Nat) (o:Oper),cs[k]?=some i→ops[i]?=some o→∀s:St,s.gl=st.gl→s.own=ow k→s.tk=st.tk→s.bZ=none→s.up=st.up→(∀p:AV→Bool,st.tmps.all p=true→vals.all p=true→s.tmps.all p=true)→(∀t∈Oper.looksAt ops o,s.tmps.getD t .any=if t<st.tmps.length then p8 (dstsOf ops) vals anc i st t else .any)→cj E ops o s (St.put { s with own:=ow (k+1) } o.dst (vals.getD i .any)))
 (h:Q .normal { st with tmps:=iz (dstsOf ops) vals st.tmps,own:=ow cs.length }):aa E (.region id ops true) Q st:=fun w0 im0 cx a w h0 hG r=>by
 have r':Rel w0 im0 cx st a w.drew:=⟨r.defers,r.size,r.tmps,r.below.drew,r.di,r.dq,r.cu,r.ca,fun i g k es h1 h2=>let h3:=r.own i g k es h1 h2;⟨h3.new,h3.im,h3.bc⟩,r.cA,r.tail,fun t T b h1 h2=>let h3:=r.tok t T b h1 h2;⟨h3.new,h3.room,h3.im,h3.bc⟩,r.apart,r.dB,r.up,r.hole⟩
 simp only[Bm,Bool.and_eq_true,List.all_eq_true,List.mem_range,decide_eq_true_eq] at hk
 obtain⟨⟨⟨⟨hv,hops⟩,hchain⟩,hnd⟩,hrange⟩:=hk
 have hop:∀(i:Nat) (o:Oper),ops[i]?=some o→∃d,o.dst=some d∧cX (dstsOf ops) 0 d=some i∧(∀e∈o.after,Region.binds .any e=true→e.on<i)∧∀t∈Oper.looksAt ops o,∀j,cX (dstsOf ops) 0 t=some j→j∈anc.getD i []∨i∈anc.getD j []:=by
  intro i o ho
  have hi:i<ops.size:=(Array.getElem?_eq_some_iff.1 ho).1
  have hh:=hops i hi
  rw[ho] at hh
  simp only[Bool.and_eq_true] at hh
  obtain⟨⟨⟨h1,h2⟩,h3⟩,h4⟩:=hh
  obtain⟨d,hd⟩:=Option.isSome_iff_exists.1 h1
  rw[hd] at h2
  refine⟨d,hd,by simpa using h2,fun e he hb=>?_,fun t ht j hj=>?_⟩
  ·have:=List.all_eq_true.1 h3 e (by simpa using he)
   rw[hb] at this;simpa using this
  ·have:=List.all_eq_true.1 h4 t ht
   rw[hj] at this;simpa using this
 have hdst:∀(t i:Nat),cX (dstsOf ops) 0 t=some i→∃o,ops[i]?=some o∧o.dst=some t:=by
  intro t i hl
  obtain⟨j,e1,e2⟩:=s9 hl
  have:i=j:=by omega
  subst this
  unfold dstsOf at e2
  rw[List.getElem?_map] at e2
  cases ho:ops.toList[i]? with
  |none=>rw[ho] at e2;simp at e2
  |some o=>
   rw[ho] at e2
   exact⟨o,by simpa using ho,by simpa using e2⟩
 have huniq:∀(t d i:Nat) (o:Oper),ops[i]?=some o→o.dst=some d→cX (dstsOf ops) 0 t=some i→t=d:=by
  intro t d i o ho hd hl
  obtain⟨o',ho',hd'⟩:=hdst t i hl
  rw[ho] at ho'
  have:o=o':=Option.some.inj ho'
  subst this
  rw[hd] at hd'
  exact(Option.some.inj hd').symm
 have hzero:ew (dstsOf ops) vals cs ow st (fun j=>(Array.replicate ops.size false).getD j false)=st:=by
  have hf:(fun j=>(Array.replicate ops.size false).getD j false)=fun _=>false:=by
   funext j
   by_cases hj:j<ops.size<;>simp[Array.getD,hj]
  rw[hf]
  unfold ew
  have e1:st.tmps.mapIdx (gP (dstsOf ops) vals fun _=>false)=st.tmps:=by
   apply List.ext_getElem?
   intro t
   rw[List.getElem?_mapIdx]
   cases st.tmps[t]? with
   |none=>rfl
   |some x=>
    simp only[Option.map_some,Option.some.injEq,gP]
    cases cX (dstsOf ops) 0 t<;>simp
  have e2:cs.countP (fun _=>false)=0:=by rw[List.countP_eq_zero];simp
  rw[e1,e2,←hown]
 refine wp_region_any hm (LS (ops:=ops) (anc:=anc) (cs:=cs) (ow:=ow) (vals:=vals) (st:=st) h0 hG hv (fun i o ho e he hb=>(hop i o ho).choose_spec.2.2.1 e he hb) ?_ ?_ ops.size _ cx a _ aD aD (by intro m hm;by_cases hj:m<ops.size<;>simp[Array.getD,hj] at hm) ?_)
 ·intro i o ho L hLi hanc hcl
  obtain⟨d,hd,hlk,_,hlooks⟩:=hop i o ho
  have hread:∀t∈Oper.looksAt ops o,(ew (dstsOf ops) vals cs ow st L).tmps.getD t .any=if t<st.tmps.length then p8 (dstsOf ops) vals anc i st t else .any:=fun t ht=>LO fun j hj=>by
   by_cases hc:j∈anc.getD i []
   ·rw[hanc j hc];symm;simpa using hc
   ·have h2:=(hlooks t ht j hj).resolve_left hc
    have h3:L j=false:=by
     cases hb:L j with
     |false=>rfl
     |true=>have:=hcl j hb i h2;rw[hLi] at this;simp at this
    rw[h3];symm;simpa using hc
  have hput:=(Pu (st:=st) (vals:=vals) (L:=L) hlk).resolve_right (fun hn=>hn fun t ht=>huniq t d i o ho hd ht)
  by_cases hic:i∈cs
  ·obtain⟨k,hk⟩:=List.mem_iff_getElem?.1 hic
   have hklt:=(List.getElem?_eq_some_iff.1 hk).1
   have hbefore:∀j,j<k→L (cs.getD j 0)=true:=fun j hj=>hanc _ (by
    have:=hchain k hklt j hj
    rw[show cs.getD k 0=i by simp[List.getD_eq_getElem?_getD,hk]] at this
    simpa using this)
   have hbehind:∀j,k<j→j<cs.length→L (cs.getD j 0)=false:=fun j hj hj2=>by
    cases hb:L (cs.getD j 0) with
    |false=>rfl
    |true=>
     have:=hcl _ hb i (by
      have:=hchain j hj2 k hj
      rw[show cs.getD k 0=i by simp[List.getD_eq_getElem?_getD,hk]] at this
      simpa using this)
     rw[hLi] at this;simp at this
   have hcnt:∀M:Nat→Bool,(∀j,j<k→M (cs.getD j 0)=true)→(∀j,k<j→j<cs.length→M (cs.getD j 0)=false)→cs.countP M=k+(if M i then 1 else 0):=by
    intro M h1 h2
    have hsplit:cs=cs.take k++i::cs.drop (k+1):=by
     have hd:=List.drop_eq_getElem_cons hklt
     rw[(List.getElem?_eq_some_iff.1 hk).2] at hd
     rw[←hd,List.take_append_drop]
    rw[hsplit,List.countP_append,List.countP_cons]
    have e1:(cs.take k).countP M=k:=by
     have:(cs.take k).countP M=(cs.take k).length:=List.countP_eq_length.2 fun x hx=>by
      obtain⟨j,hj⟩:=List.mem_iff_getElem?.1 hx
      rw[List.getElem?_take] at hj
      split at hj
      ·rename_i hjk
       have:=h1 j hjk
       rwa[show cs.getD j 0=x by simp[List.getD_eq_getElem?_getD,hj]] at this
      ·simp at hj
     rw[this,List.length_take];omega
    have e2:(cs.drop (k+1)).countP M=0:=List.countP_eq_zero.2 fun x hx=>by
     obtain⟨j,hj⟩:=List.mem_iff_getElem?.1 hx
     rw[List.getElem?_drop] at hj
     have hj2:k+1+j<cs.length:=(List.getElem?_eq_some_iff.1 hj).1
     have:=h2 (k+1+j) ab hj2
     rw[show cs.getD (k+1+j) 0=x by simp[List.getD_eq_getElem?_getD,hj]] at this
     simp[this]
    rw[e1,e2];simp
   have c1:cs.countP L=k:=by rw[hcnt L hbefore hbehind,hLi];simp
   have hne:∀j,j≠k→j<cs.length→cs.getD j 0≠i:=fun j hj hj2 e=>hj (by
    have h3:cs[j]?=cs[k]?:=by
     rw[hk,←e,List.getElem?_eq_getElem hj2];simp[List.getD_eq_getElem?_getD,List.getElem?_eq_getElem hj2]
    exact((List.getElem?_inj hj2 hnd).1 h3))
   have c2:cs.countP (iU L i)=k+1:=by
    rw[hcnt (iU L i) (fun j hj=>by show(if _ then true else _)=true;rw[hbefore j hj];simp) (fun j hj hj2=>by show(if _ then true else _)=false;rw[if_neg (hne j ab hj2),hbehind j hj hj2])]
    simp[iU]
   have:=hc k i o hk ho (ew (dstsOf ops) vals cs ow st L) rfl (by simp[ew,c1]) rfl hrsv rfl (fun p h1 h2=>OB hvl h1 h2) hread
   rw[hd] at this
   have e:St.put { ew (dstsOf ops) vals cs ow st L with own:=ow (k+1) } (some d) (vals.getD i .any)=ew (dstsOf ops) vals cs ow st (iU L i):=by
    simp only[St.put,ew]
    rw[hput,c2]
   rw[←e]
   exact this
  ·have:=hp i o ho hic (ew (dstsOf ops) vals cs ow st L) rfl ⟨_,rfl⟩ rfl hrsv hread
   rw[hd] at this
   have e:St.put (ew (dstsOf ops) vals cs ow st L) (some d) (vals.getD i .any)=ew (dstsOf ops) vals cs ow st (iU L i):=by
    simp only[St.put,ew]
    rw[hput,Hv hic]
   rw[←e]
   exact this
 ·intro L hL
  have e:ew (dstsOf ops) vals cs ow st L={ st with tmps:=iz (dstsOf ops) vals st.tmps,own:=ow cs.length }:=by
   unfold ew
   have e1:st.tmps.mapIdx (gP (dstsOf ops) vals L)=iz (dstsOf ops) vals st.tmps:=by
    apply List.ext_getElem?
    intro t
    rw[tN _ _ _ _ hvl,List.getElem?_mapIdx]
    ·congr 1
     funext x
     unfold gP
     cases hl:cX (dstsOf ops) 0 t with
     |none=>rfl
     |some i=>
      obtain⟨o,ho,_⟩:=hdst t i hl
      simp[hL i (Array.getElem?_eq_some_iff.1 ho).1]
    ·intro d hd
     rcases Nat.lt_or_ge 1 ((dstsOf ops).count (some d)) with hcc|hcc
     ·exfalso
      have hidx:∀i o,ops[i]?=some o→o.dst=some d→cX (dstsOf ops) 0 d=some i:=fun i o ho hd'=>by
       obtain⟨d2,e2,e3,_⟩:=hop i o ho
       rw[hd'] at e2
       rw[Option.some.inj e2];exact e3
      have hdup:∃i j:Nat,i<j∧(dstsOf ops)[i]?=some (some d)∧(dstsOf ops)[j]?=some (some d):=by
       have key:∀l:List (Option Tmp),1<l.count (some d)→∃i j:Nat,i<j∧l[i]?=some (some d)∧l[j]?=some (some d):=by
        intro l
        induction l with
        |nil=>intro h;simp at h
        |cons y l ih=>
         intro h
         rw[List.count_cons] at h
         by_cases hy:y=some d
         ·subst hy
          simp only[beq_self_eq_true,if_true] at h
          have hm:some d∈l:=List.count_pos_iff.1 ab
          obtain⟨j,hj⟩:=List.mem_iff_getElem?.1 hm
          exact⟨0,j+1,by omega,rfl,by simpa using hj⟩
         ·have:l.count (some d)>1:=by
           have hb:(y==some d)=false:=by simpa using hy
           rw[hb] at h;simpa using h
          obtain⟨i,j,hij,h1,h2⟩:=ih this
          exact⟨i+1,j+1,by omega,by simpa using h1,by simpa using h2⟩
       exact key _ hcc
      obtain⟨i,j,hij,h1,h2⟩:=hdup
      have get:∀k:Nat,(dstsOf ops)[k]?=some (some d)→cX (dstsOf ops) 0 d=some k:=fun k hk=>by
       unfold dstsOf at hk
       rw[List.getElem?_map] at hk
       cases ho:ops.toList[k]? with
       |none=>rw[ho] at hk;simp at hk
       |some o=>
        rw[ho] at hk
        exact hidx k o (by simpa using ho) (by simpa using hk)
      have e1:=get i h1
      have e2:=get j h2
      rw[e1] at e2
      have:=Option.some.inj e2
      omega
     ·exact hcc
   have e2:cs.countP L=cs.length:=List.countP_eq_length.2 fun x hx=>by
    obtain⟨k,hk⟩:=List.mem_iff_getElem?.1 hx
    exact hL x (hrange x hx)
   rw[e1,e2]
  rw[e];exact h
 ·rw[hzero];exact r'
end
section
variable{E:Env}{Q:Exit→St→Prop}{st:St}{ops:Array Oper}{l:List Oper}
end
theorem By{no nt:Nat}:∀{own:List (Option (List AV))},(∀es,some es∈own→∀e∈es,∀z∈e.leaves,z.bO no nt=true)→iA no nt own own
 |[],_=>trivial
 |x::xs,h=>⟨.inr ⟨rfl,fun es e=>h es (by rw[e];exact List.mem_cons_self ..)⟩,By fun es hes=>h es (List.mem_cons_of_mem _ hes)⟩
theorem dm:∀{tk:List Nat},jw tk tk
 |[]=>trivial
 |_::_=>⟨rfl,dm⟩
theorem AV.wb{no nt no' nt':Nat}(h1:no≤no')(h2:nt≤nt'){x:AV}(h:x.de no nt=true):x.de no' nt'=true:=by
 cases x with
 |sl t k es=>cases t with
  |none=>rfl
  |some t=>simp only[AV.de,decide_eq_true_eq] at *;omega
 |mu=>simp only[AV.de,decide_eq_true_eq] at *;omega
 |ptr=>simp only[AV.de,decide_eq_true_eq] at *;omega
 |fn f cs=>cases cs<;>simp_all[AV.de]
 |_=>simp_all[AV.de]
theorem AV.BW{no nt no' nt':Nat}(h1:no≤no')(h2:nt≤nt'){x:AV}(h:x.eh no nt=true):x.eh no' nt'=true:=by
 cases x with
 |agg cs=>simp only[AV.eh,List.all_eq_true] at *;exact fun y hy=>AV.wb h1 h2 (h y hy)
 |fn f cs=>simp only[AV.eh,List.all_eq_true] at *;exact fun y hy=>AV.wb h1 h2 (h y hy)
 |_=>simp only[AV.eh] at *;first|exact AV.wb h1 h2 h|rfl
theorem AV.Gg{no nt no' nt':Nat}(h1:no≤no')(h2:nt≤nt'){x:AV}(h:x.bO no nt=true):x.bO no' nt'=true:=by
 cases x with
 |aC cs=>simp only[AV.bO,List.all_eq_true] at *;exact fun y hy=>AV.BW h1 h2 (h y hy)
 |_=>simp only[AV.bO] at *;exact AV.BW h1 h2 h
def bu(own:List (Option (List AV)))(no nt:Nat):Prop:=∀es,some es∈own→∀e∈es,∀z∈e.leaves,z.bO no nt=true
theorem bu.mono{own:List (Option (List AV))}{no nt no' nt':Nat}(h:bu own no nt)(h1:no≤no')(h2:nt≤nt'):bu own no' nt':=fun es hes e he z hz=>AV.Gg h1 h2 (h es hes e he z hz)
theorem bu.app{own l:List (Option (List AV))}{no nt:Nat}(h:bu own no nt)(h2:bu l no nt):bu (own++l) no nt:=fun es hes=>(List.mem_append.1 hes).elim (h es) (h2 es)
theorem bu.set{own:List (Option (List AV))}{no nt id:Nat}{x:List AV}(h:bu own no nt)(h2:∀e∈x,∀z∈e.leaves,z.bO no nt=true):bu (own.set id (some x)) no nt:=fun es hes=>by
 rcases List.mem_or_eq_of_mem_set hes with hes|hes
 ·exact h es hes
 ·simp only[Option.some.injEq] at hes;subst hes;exact h2
theorem bu.nil{no nt:Nat}:bu [] no nt:=fun es hes=>by simp at hes
theorem bu.cons{own:List (Option (List AV))}{no nt:Nat}{x:Option (List AV)}(h:∀es,x=some es→∀e∈es,∀z∈e.leaves,z.bO no nt=true)(h2:bu own no nt):bu (x::own) no nt:=fun es hes=>by
 rcases List.mem_cons.1 hes with hes|hes
 ·exact h es hes.symm
 ·exact h2 es hes
theorem bu.wk{own:List (Option (List AV))}{no nt:Nat}(h:bu own no nt):iA no nt own own:=By h
section
variable{α:Type}{own:List α}{a b c x:α}
end
theorem an.xX{E:Env}{Q:Exit→St→Prop}{st:St}{ops:Array Oper}{l:List Oper}{dst:Option Tmp}{t tx ty:TypeId}{x y:Operand}{pos:String}{after:Array Edge}{e:TypeId}{k n id m0:Nat}{es xs:List AV}
 (hx:eI E.P tx=true) (hai:dd E.P t=some (e,k,n)) (hs:st.ev x= .mu id k 0 es.length (es.length+m0)) (hsrc:iu (st.ev y) k=some xs) (ho:st.own[id]?=some (some (es++spare k m0))) (h62:es.length+xs.length≤4611686018427387904) (hbt:(es.length+xs.length)*n≤140737488355328)
 (h:∀m,an E ops l Q (St.put { st with own:=st.own.set id none++[some (es++xs++spare k m)] } dst (.mu st.own.length k 0 (es.length+xs.length) (es.length+xs.length+m)))):an E ops (⟨dst,.call ⟨.builtin .append,#[x,y],#[t,tx]⟩,ty,pos,after,none⟩::l) Q st:=by
 intro w0 im0 cx a w h0 hG r
 refine wpList_step (fun K' hK'=>?_)
 have hw:Region.wanted ⟨dst,.call ⟨.builtin .append,#[x,y],#[t,tx]⟩,ty,pos,after,none⟩ (yielded ops a.tmps)=true:=rfl
 rw[if_pos hw]
 have hv:=r.ev x
 rw[hs] at hv
 have fin:∀(v':Value) (w':World) (c':Ctx) (m:Nat),(Builtin.append_ #[t,tx] ty #[a.eval x,a.eval y]).run E.P w= .ok v' w'→Rel w0 im0 c' { st with own:=st.own.set id none++[some (es++xs++spare k m)] } a w'→VR c' (.mu st.own.length k 0 (es.length+xs.length) (es.length+xs.length+m)) v'→
  Oper.wp E.P ⟨dst,.call ⟨.builtin .append,#[x,y],#[t,tx]⟩,ty,pos,after,none⟩ a w K' (fun e a' w'=>gS w0 im0 (Q e) a' w'):=fun v' w' c' m h1 h2 h3=>by
  refine eT (w':=w') (v:=v') ?_ (hK' _ _ (h m w0 im0 _ _ _ h0 hG (h2.put dst h3)))
  simp only[execOp,resolve,Sem.run_bind,Sem.run_pure,Result.andThen_ok,invoke,builtin,List.map_toArray,List.map_cons,List.map_nil,h1]
 by_cases hne:xs=[]
 ·subst hne
  obtain⟨hu,hss,hk0,i,zv,hi,hz,hsize,hbytes,hzs⟩:=jf hai
  obtain⟨news,hnl,hnc,hlen,hone,hfirst⟩:=oy (P:=E.P) r (r.ev y) hk0 hsrc
  have hnews:news=[]:=List.eq_nil_of_length_eq_zero (by simpa using hnl)
  subst hnews
  have hrun:∀base (N C:Nat),N≤C→a.eval x= .slice base N C→(Builtin.append_ #[t,tx] ty #[a.eval x,a.eval y]).run E.P w= .ok (a.eval x) w:=fun base N C hNC hb=>by
   rw[hb]
   have:=nL (P:=E.P) (w:=w) (ty:=ty) (base:=base) (n:=N) (cap:=C) hu hss hx (hlen w) (hfirst w (fun _ _=>rfl)) (by simpa using hNC)
   rw[this]
   cases base<;>simp[storeCells]
  rcases hv.c0 with⟨g,hb,hcap,he⟩|⟨hz1,hz2,he⟩
  ·obtain⟨hle,r2⟩:=r.uP hb ho
   refine fin _ w _ m0 (hrun _ _ _ ab he) (by simpa using r2) ?_
   rw[he]
   exact .mu (by show(cx.β++[_])[_]?=_;rw[←r.ca];simp) aD
  ·have hes:es=[]:=List.eq_nil_of_length_eq_zero hz1
   have hm0:m0=0:=by omega
   subst hes;subst hm0
   obtain⟨hle,r2⟩:=(r.ma id).rM
   exact fin _ w _ 0 (hrun _ _ _ (Nat.le_refl _) he) (by simpa[spare] using r2) (by rw[he];exact .jC)
 ·obtain⟨v',w',c',m,hr,hR,hV⟩:=u6 (P:=E.P) (ty:=ty) r hx hai (r.ev y) hsrc hne (es:=es) (sp:=spare k m0) (by rw[cJ];exact hv) ho h62 hbt
  exact fin v' w' c' m hr (by simpa using hR) (by simpa using hV)
end Go.Abs
end
