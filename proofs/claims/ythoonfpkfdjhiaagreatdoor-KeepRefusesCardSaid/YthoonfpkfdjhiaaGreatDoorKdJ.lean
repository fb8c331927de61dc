/- Texts of one chain, put together (C7, C8, Lq, Lj, C9, D0, Arr, GtB, StA, MrA, GtC, GtD, GtE). -/
import Derived.Test.YthoonfpkfdjhiaaGreatDoorKdI
import Derived.Test.YthoonfpkfdjhiaaGreatDoorKdH
import Derived.Laws.MakeOwn
import Derived.Lib.AppendZerosOnto
import Derived.Lib.Overlaps
import Derived.Shelf.Spec.SlicesGrow
import Derived.Lib.LaidTab
import Derived.Test.YthoonfpkfdjhiaaGreatDoorKdG
import Derived.Sort.LotA
import Derived.Test.YthoonfpkfdjhiaaGreatDoorKdA
set_option linter.unusedVariables false
set_option linter.unusedSimpArgs false
set_option maxHeartbeats 16000000
set_option maxRecDepth 8000
section
namespace Go.Proofs.YthoonfpkfdjhiaaGreatDoor
open Go Go.az Go.RowKit
theorem CY{l:List UInt8}{i:Nat}{acc:List (List UInt8)}(h:Kp.cB l=(acc++(Kp.cB (l.drop i)).1,i+(Kp.cB (l.drop i)).2))(e:¬(Kp.bJ (l.drop i)).2.2=0∨(Kp.bJ (l.drop i)).2.1=0):Kp.cB l=(acc,i):=by
 have e:¬(Kp.bJ (l.drop i)).2.2=0:=by
  rcases e with e|e
  ·exact e
  ·intro h;have:=(Kp.nZ h).2.1;omega
 rw[Kp.rX e] at h;rw[h];simp
theorem Da{l:List UInt8}{i:Nat}(h1:i≤l.length)(e:(Kp.bJ (l.drop i)).2.2=0):l.length-(i+(Kp.bJ (l.drop i)).2.1)<l.length-i:=by
 have h:=Kp.nZ e
 have hl:=congrArg List.length h.2.2
 rw[List.length_append,Kp.eC,List.length_drop] at hl
 have:=h.1.1
 omega
theorem CZ{l:List UInt8}{i:Nat}{acc:List (List UInt8)}(h1:i≤l.length)(h2:acc.length≤i)(h:Kp.cB l=(acc++(Kp.cB (l.drop i)).1,i+(Kp.cB (l.drop i)).2))(e:(Kp.bJ (l.drop i)).2.2=0):
 i+(Kp.bJ (l.drop i)).2.1≤l.length∧(acc++[(Kp.bJ (l.drop i)).1]).length≤i+(Kp.bJ (l.drop i)).2.1∧
 Kp.cB l=(acc++[(Kp.bJ (l.drop i)).1]++(Kp.cB (l.drop (i+(Kp.bJ (l.drop i)).2.1))).1,i+(Kp.bJ (l.drop i)).2.1+(Kp.cB (l.drop (i+(Kp.bJ (l.drop i)).2.1))).2):=by
 have hn:=Kp.nZ e
 have hl:=congrArg List.length hn.2.2
 rw[List.length_append,Kp.eC,List.length_drop] at hl
 have:=hn.1.1
 refine⟨by omega,by rw[List.length_append,List.length_singleton];omega,?_⟩
 rw[Kp.tZ e,List.drop_drop] at h
 rw[h,List.append_assoc,Nat.add_assoc];rfl
theorem KD(l:List UInt8)(hl:l.length≤1000000):ai E 139 [aU l] (fun r t=>r= .ax [.sl (some 0) 1 ((Kp.cB l).1.map aU),i64 (Kp.cB l).2]∧t=[(Kp.cB l).1.length]):=by
 refine ai.aC (n:=32) (rs:=[.tmp 2,.tmp 3]) Tryz.func139 rfl Tryz.ntmps139 rfl ?_
 repeat'(first
 |refine aa.ah fun K hK=>?_
 |(
  refine aa.here 6 25 5 rfl ?_
  obtain⟨q1,q2,q3⟩:=CZ h1 h2 h3 ab
  have q4:=Da h1 ab
  have hw:IntKind.i64.wrap ((i:Int)+((Kp.bJ (l.drop i)).2.1:Int))=((i+(Kp.bJ (l.drop i)).2.1:Nat):Int):=by rw[aN ab ab];simp
  refine aa.region ?_;simp only[go_sem])
 |(
  refine aa.here 7 29 4 rfl ?_
  refine aa.region ?_;simp only[go_sem,hw])
 |(refine aa.region ?_;simp only[go_sem])
 |(refine hK _ ?_;clear hK K)
 |refine aa.block ?_
 |refine aa.cond rfl (fun c=>?_) (fun c=>?_)<;>first|exact Bool.noConfusion c|(try simp only[dD] at c)
 |refine aa.skip ?_
 |(refine ak.one (KE (l.drop i) (by rw[List.length_drop];omega)) ae rfl ?_;simp only[go_sem])
 |(refine aP.split (fun h=>?_) (fun h=>?_)<;>simp only[h,go_sem]<;>(try simp only[dD] at h))
 |((with_reducible refine And.intro ?_ ?_);(focus(omega));(try simp only[hb,go_sem]))
 |(
  refine aa.here 3 10 11 rfl ?_
  refine aa.pD 4 1 rfl ?_
  simp only[go_sem]
  refine aa.dR (ι:=Nat×List (List UInt8)) [2,3,6,7,8,9,10,11,12,13,14,15,16,17,18,19,20,21,22,23,24,25,26,27,28,29,30,31] (fun⟨i,acc⟩=>[(5,i64 i),(4,.sl (some 0) 1 (acc.map aU))]) (fun⟨i,acc⟩=>[]) (fun⟨i,acc⟩=>[acc.length]) (fun⟨i,acc⟩=>i≤l.length∧acc.length≤i∧Kp.cB l=(acc++(Kp.cB (l.drop i)).1,i+(Kp.cB (l.drop i)).2)) (fun⟨i,acc⟩=>l.length-i) ((0,[])) ?_ ?_ ?_
  ·(try simp only[go_sem]);(repeat'(first|fail));done
  ·exact⟨by omega,by simp,by simp⟩
  rintro⟨i,acc⟩ ⟨h1,h2,h3⟩
  simp only[go_sem])
 |(
  refine⟨(i+(Kp.bJ (l.drop i)).2.1,acc++[(Kp.bJ (l.drop i)).1]),?_,?_,?_⟩
  ·(try simp only[go_sem]);(try rw[aN ab ab]);(repeat'((simp;done)));done
  ·(exact⟨q1,q2,q3⟩)
  ·(try simp only[]);omega)
 |(
  refine aa.ret ?_
  simp only[go_sem];((rw[CY h3 ab];exact⟨[(true,0)],.ax [.sl (some 0) 1 _,.v _],rfl,⟨⟨rfl,rfl,rfl⟩,rfl,trivial⟩,rfl,rfl⟩))))
def X6(P:Program)(t:TypeId):Array Field:=match P.underlying t with|some (.struct f)=>f|_=>#[]
@[go_sem] theorem acS:Tryz.prog.underlying 46=some (.struct (X6 Tryz.prog 46)):=by kernel_rfl
abbrev cE(d:Kp.Dk):AV:= .agg [aU d.f0.safe,aU d.f0.tail,aU d.f1.safe,aU d.f1.tail]
theorem fc:IntKind.i64.wrap 1=1:=by decide
theorem fe:IntKind.i64.wrap 2=2:=by decide
theorem uD{d:Kp.Dk}{no nt:Nat}:∀e∈[cE d],∀z∈e.leaves,z.br no nt=true:=by
 intro e he z hz
 simp only[List.mem_singleton] at he
 subst he
 simp only[AV.leaves,List.mem_cons,List.not_mem_nil,or_false] at hz
 rcases hz with rfl|rfl|rfl|rfl<;>rfl
theorem gP{d:Kp.Dk}{no nt:Nat}:some [cE d]=none∨∀es,some [cE d]=some es→∀e∈es,∀z∈e.leaves,z.br no nt=true:= .inr fun es h=>by cases h;exact uD
theorem KV{d:Kp.Dk}{no nt:Nat}:some [cE d]=none∨some [cE d]=some [cE d]∧∀es,some [cE d]=some es→∀e∈es,∀z∈e.leaves,z.br no nt=true:= .inr ⟨rfl,fun es h=>by cases h;exact uD⟩
theorem abu{no nt:Nat}:∀e∈[AV.agg [.aw,.aw,.aw,.aw]],∀z∈e.leaves,z.br no nt=true:=by
 intro e he z hz
 simp only[List.mem_singleton] at he
 subst he
 simp only[AV.leaves,List.mem_cons,List.not_mem_nil,or_false] at hz
 rcases hz with rfl|rfl|rfl|rfl<;>rfl
theorem mY{no nt:Nat}:some [AV.agg [.aw,.aw,.aw,.aw]]=none∨∀es,some [AV.agg [.aw,.aw,.aw,.aw]]=some es→∀e∈es,∀z∈e.leaves,z.br no nt=true:= .inr fun es h=>by cases h;exact abu
theorem PZ{n:Int}(h:0≤n):decide (n<2)=Kp.fk n:=by
 unfold Kp.fk
 rcases(by omega:n<2∨2≤n) with h2|h2
 ·rcases(by omega:n=0∨n=1) with rfl|rfl<;>rfl
 ·rw[decide_eq_false ab,decide_eq_false ab,decide_eq_false ab];rfl
theorem PY{n:Int}(h:¬0≤n):false=Kp.fk n:=by
 unfold Kp.fk
 rw[decide_eq_false ab,decide_eq_false ab];rfl
def ef(d:Kp.Dk):Prop:=d.f0.safe.length≤200000∧d.f0.tail.length≤200000∧d.f1.safe.length≤200000∧d.f1.tail.length≤200000
theorem sX{f:Kp.Fi}(h:f.safe.length+f.tail.length≤65536):Kp.okF f=true:=decide_eq_true h
theorem AD{f:Kp.Fi}(h:¬f.safe.length+f.tail.length≤65536):Kp.okF f=false:=decide_eq_false h
theorem rk{d:Kp.Dk}(h0:Kp.okF d.f0=true)(h1:Kp.okF d.f1=true):Kp.b6 d=true:=by unfold Kp.b6;rw[h0,h1];rfl
theorem BD{d:Kp.Dk}(h:¬d.f0.safe.length+d.f0.tail.length≤65536∨¬d.f1.safe.length+d.f1.tail.length≤65536):Kp.b6 d=false:=by
 unfold Kp.b6
 rcases h with h|h
 ·rw[AD h];rfl
 ·rw[AD h,Bool.and_false]
theorem mn(d:Kp.Dk)(hd:ef d):ai E 97 [cE d] (fun r t=>r=bl (Kp.b6 d)∧t=[]):=by
 obtain⟨s0,s1,s2,s3⟩:=hd
 have hw0:IntKind.i64.wrap ((d.f0.safe.length:Int)+(d.f0.tail.length:Int))=(d.f0.safe.length:Int)+(d.f0.tail.length:Int):=aN ab ab
 have hw1:IntKind.i64.wrap ((d.f1.safe.length:Int)+(d.f1.tail.length:Int))=(d.f1.safe.length:Int)+(d.f1.tail.length:Int):=aN ab ab
 refine ai.aC (n:=19) (rs:=[.tmp 2]) Tryz.func97 rfl Tryz.ntmps97 rfl ?_
 repeat'(first
 |refine aa.ah fun K hK=>?_
 |(
  refine aa.here 3 9 3 rfl ?_
  obtain rfl|rfl:i=0∨i=1:=by omega
  refine aa.region ?_;simp only[go_sem])
 |(
  refine aa.here 4 10 8 rfl ?_
  refine aa.region ?_;simp only[go_sem,hw0,hw1])
 |(refine aa.region ?_;simp only[go_sem])
 |(refine hK _ ?_;clear hK K)
 |refine aa.block ?_
 |refine aa.cond rfl (fun c=>?_) (fun c=>?_)<;>(try simp only[dD] at c)
 |refine aa.skip ?_
 |(refine aa.exit ?_;simp only[go_sem])
 |((with_reducible refine And.intro ?_ ?_);(focus((simp;done)));(try simp only[hb,go_sem]))
 |(
  refine aa.here 2 8 1 rfl ?_
  refine aa.dR (ι:=Nat) [2,4,8,9,10,11,12,13,14,15,16,17,18] (fun(i:Nat)=>[(7,i64 i),(6,cE d)]) (fun(i:Nat)=>[some [cE d]]) (fun(i:Nat)=>[]) (fun(i:Nat)=>i≤2∧(1≤i→Kp.okF d.f0=true)∧(2≤i→Kp.okF d.f1=true)) (fun(i:Nat)=>2-i) (0) ?_ ?_ ?_
  ·(try simp only[go_sem]);(try simp only[go_sem,fc,fe]);(repeat'(exact gP))
  ·exact⟨by omega,fun h=>by omega,fun h=>by omega⟩
  rintro i ⟨h1,h2,h3⟩
  simp only[go_sem])
 |(
  refine⟨1,?_,?_,?_⟩
  ·(try simp only[go_sem]);(try rw[aN ab ab]);(try simp only[go_sem,fc,fe]);(repeat'(first|exact gP|refine And.intro ?_ ?_))
  ·exact⟨by omega,fun _=>by(exact sX ab),fun h=>by(exfalso;omega)⟩
  ·(try simp only[]);omega)
 |(
  refine⟨2,?_,?_,?_⟩
  ·(try simp only[go_sem]);(try rw[aN ab ab]);(try simp only[go_sem,fc,fe]);(repeat'(exact gP))
  ·exact⟨by omega,fun _=>by(exact h2 ab),fun h=>by(exact sX ab)⟩
  ·(try simp only[]);omega)
 |(
  refine aa.ret ?_
  refine aM.is ?_;simp only[go_sem,aI,aH,aG,aK,aJ,aL]<;>(first|(rw[BD (.inl ab)];done)|(rw[BD (.inr ab)];done)|(rw[rk (h2 ab) (h3 ab)];done)))
 |refine aa.fin af ?_)
theorem sr(d:Kp.Dk)(n:Int):ai E 138 [cE d,i64 n] (fun r t=>r=bl (Kp.fk n)∧t=[]):=by
 refine ai.aC (n:=11) (rs:=[.tmp 4]) Tryz.func138 rfl Tryz.ntmps138 rfl ?_
 repeat'(first
 |refine aa.ah fun K hK=>?_
 |(refine aa.region ?_;simp only[go_sem])
 |(refine hK _ ?_;clear hK K)
 |(refine aP.split (fun h=>?_) (fun h=>?_)<;>simp only[h,go_sem]<;>(try simp only[dD] at h))
 |(
  refine aa.ret ?_
  refine aM.is ?_;simp only[go_sem,aI,aH,aG,aK,aJ,aL]<;>(first|exact PZ af |exact PY af)))
theorem sw(d:Kp.Dk)(hd:ef d):ai E 102 [cE d] (fun r t=>r=cE d∧t=[]):=by
 obtain⟨s0,s1,s2,s3⟩:=hd
 refine ai.aC (n:=23) (rs:=[.cell 2 49]) Tryz.func102 rfl Tryz.ntmps102 rfl ?_
 repeat'(first
 |refine aa.ah fun K hK=>?_
 |(
  refine aa.here 3 9 5 rfl ?_
  obtain rfl|rfl:i=0∨i=1:=by omega
  refine aa.region ?_;simp only[go_sem])
 |(refine aa.region ?_;simp only[go_sem])
 |(refine aa.here 4 11 11 rfl ?_;refine aa.bA [0,1,2,4,5,8,3,6,7,9,10] [] ae ae rfl ?_;simp only[go_sem])
 |(refine hK _ ?_;clear hK K)
 |refine aa.block ?_
 |refine aa.cond rfl (fun c=>?_) (fun c=>?_)<;>(try simp only[dD] at c)
 |refine aa.skip ?_
 |(refine aa.exit ?_;simp only[go_sem])
 |(refine ak.one (nr _ ab) ae rfl ?_;simp only[go_sem])
 |(
  refine aa.here 2 8 1 rfl ?_
  refine aa.dR (ι:=Nat) [3,4,8,9,10,11,12,13,14,15,16,17,18,19,20,21] (fun(i:Nat)=>[(7,i64 i),(6,cE d)]) (fun(i:Nat)=>[some [cE d],some [.agg [.aw,.aw,.aw,.aw]]]) (fun(i:Nat)=>[]) (fun(i:Nat)=>i≤2) (fun(i:Nat)=>2-i) (0) ?_ ?_ ?_
  ·(try simp only[go_sem]);(try simp only[go_sem,fc,fe]);(repeat'(first|exact gP|exact mY|refine And.intro ?_ ?_))
  ·omega
  rintro i h1
  simp only[go_sem])
 |(
  refine⟨1,?_,?_,?_⟩
  ·(try simp only[go_sem]);(try rw[aN ab ab]);(try simp only[go_sem,fc,fe]);(repeat'(first|exact gP|exact mY|refine And.intro ?_ ?_))
  ·omega
  ·(try simp only[]);omega)
 |(
  refine⟨2,?_,?_,?_⟩
  ·(try simp only[go_sem]);(try rw[aN ab ab]);(try simp only[go_sem,fc,fe]);(repeat'(first|exact gP|exact mY|refine And.intro ?_ ?_))
  ·omega
  ·(try simp only[]);omega)
 |(
  refine aa.ret ?_
  refine aM.is ?_;simp only[go_sem,aI,aH,aG,aK,aJ,aL]<;>(first|fail))
 |refine aa.fin af ?_)
end Go.Proofs.YthoonfpkfdjhiaaGreatDoor
end
section
namespace Go.az
open Go Go.RowKit
theorem Cells.Uj{c:Ctx}{k:Nat}{es:List AV}{cs:List Value}(h:Cells c.im k es cs):cu c k es cs:=
 ⟨h.1,fun i e j x he hx=>by obtain⟨u,h1,h2,h3⟩:=h.2 i e j x he hx;exact⟨u,h1,.base h2,.inr h3⟩⟩
section
variable{P:Program}{w0:World}{im0:cU}{c:Ctx}{st:St}{a:Act}{w:World}
theorem Ku(r:Rel w0 im0 c st a w){t tx ty e:TypeId}{k n':Nat}(hai:cL P t=some (e,k,n')){id off len cap:Nat}{es xs:List AV}{v xv:Value}{x:AV}
 (hv:VR c (.mu id k off len cap) v) (hxv:VR c x xv) (hsrc:fB x k=some xs) (ho:st.own[id]?=some (some es)) (hfit:off+len≤es.length) (hxl:xs.length≤len) (hpos:0<len):
 ∃w',(Builtin.copy_ #[t,tx] ty #[v,xv]).run P w= .ok (goInt xs.length) w'∧Rel w0 im0 c { st with own:=st.own.set id (some (es.take off++(xs++es.drop (off+xs.length)))) } a w':=by
 obtain⟨hu,hs,hk0,ii,zv,hi,hz,hsize,hbytes,hzs⟩:=gj hai
 rcases hv.cW with⟨g,hb,hcap,hve⟩|⟨hl0,_,_⟩
 rotate_left
 ·omega
 have hown:=r.own id g k _ hb ho
 obtain⟨cs,ty',lo,hi',hblk,hfr,hsz,hlv,hcell⟩:=hown.aZ
 obtain⟨news,hnl,hcells,hlen,hone,hfirst⟩:=oE (P:=P) r hxv hk0 hsrc
 have hoc:cu c k es cs.toList:=⟨hlv,fun i e j x he hx=>by obtain⟨u,h1,h2⟩:=hcell i e j x he hx;exact⟨u,by simpa using h1,h2⟩⟩
 have hq:cs.toList.length=cs.size:=Array.length_toList
 have hmul:(off+xs.length)*k≤es.length*k:=Nat.mul_le_mul_right _ ab
 rw[Nat.add_mul] at hmul
 have hfro:∀o,o<cs.toList.length→¬(lo≤o∧o<hi'):=fun o h1 h2=>by
  have h1:o<cs.size:=by simpa using h1
  rcases hfr with h|h<;>omega
 have hcs:cs=cs.toList.toArray:=by simp
 have hfit2:off*k+0+news.length≤cs.toList.length:=by rw[hnl,hq];omega
 have hst:=lW (P:=P) g (off*k) ty' lo hi' news 0 cs.toList w (by rw[←hcs];exact hblk) hfro hfit2 hone
 rw[Nat.add_zero] at hst
 have hrun:(Builtin.copy_ #[t,tx] ty #[v,xv]).run P w= .ok (goInt xs.length) (w.setRow g (ch cs.toList (off*k) news).toArray):=by
  have hmin:Nat.min xs.length len=xs.length:=Nat.min_eq_left hxl
  have hso:=dq hs w
  subst hve
  simp only[Builtin.copy_,List.getElem?_toArray,List.getElem?_cons_zero,List.getElem?_cons_succ,Sem.run_bind,bV hu,Result.andThen_ok,hlen w,hso,hmin,hfirst w (fun _ _=>rfl),hst,Sem.run_pure]
 have hcs'len:(ch cs.toList (off*k) news).length=cs.size:=by rw[gz];simp
 have hOC:cu c k (es.take off++(xs++es.drop (off+xs.length))) (ch cs.toList (off*k) news):=by
  have e1:ch cs.toList (off*k) news=cs.toList.take (off*k)++(news++cs.toList.drop ((off+xs.length)*k)):=by
   apply List.ext_getElem?
   intro p
   have htl:(cs.toList.take (off*k)).length=off*k:=by rw[List.length_take,hq];omega
   rw[jX _ _ _ _ (by simpa using hfit2)]
   by_cases hp:p<off*k
   ·rw[if_neg ab,List.getElem?_append_left (by rw[htl];exact hp),List.getElem?_take,if_pos hp]
   ·rw[List.getElem?_append_right (by rw[htl];omega),htl]
    by_cases hp2:p<off*k+news.length
    ·rw[if_pos ⟨by omega,hp2⟩,List.getElem?_append_left ab]
    ·rw[if_neg ab,List.getElem?_append_right ab,List.getElem?_drop,hnl,Nat.add_mul]
     congr 1;rw[hnl] at hp2;omega
  rw[e1]
  refine(hoc.takeN off ab).append (by rw[List.length_take,List.length_take,hq,Nat.min_eq_left (show off≤es.length by omega)];omega) ?_
  exact hcells.Uj.append hnl (hoc.drop (off+xs.length))
 have hnewlen:(es.take off++(xs++es.drop (off+xs.length))).length=es.length:=by simp only[List.length_append,List.length_take,List.length_drop];omega
 have hset:=r.oB (w':=w.setRow g (ch cs.toList (off*k) news).toArray) (es':=es.take off++(xs++es.drop (off+xs.length))) hb ho (fun b hne=>setRow_other w g b _ hne) (below_setRow r.below hown.new _)
  ⟨(ch cs.toList (off*k) news).toArray,ty',lo,hi',setRow_heap w g cs _ ty' (lo,hi') hblk,by
    rcases hfr with h|h
    ·exact .inl h
    ·exact .inr (by simpa[gz] using h),by
    rw[hnewlen];simp only[List.size_toArray,hcs'len];exact hsz,hOC.1,fun i e j x he hx=>by
    obtain⟨u,h1,h2⟩:=hOC.2 i e j x he hx
    exact⟨u,by simpa using h1,h2⟩⟩
 exact⟨_,hrun,hset⟩
end
theorem al.qt{E:Env}{Q:Exit→St→Prop}{st:St}{ops:Array Oper}{l:List Oper}{dst:Option Tmp}{t tx ty:TypeId}{x y:Operand}{pos:String}{after:Array Edge}{e:TypeId}{k n id off len cap:Nat}{es xs:List AV}
 (hai:cL E.P t=some (e,k,n)) (hx:st.ev x= .mu id k off len cap) (hsrc:fB (st.ev y) k=some xs) (ho:st.own[id]?=some (some es)) (hfit:off+len≤es.length) (hxl:xs.length≤len) (hpos:0<len)
 (h:al E ops l Q (St.put { st with own:=st.own.set id (some (es.take off++(xs++es.drop (off+xs.length)))) } dst (.v (goInt xs.length)))):al E ops (⟨dst,.call ⟨.builtin .copy,#[x,y],#[t,tx]⟩,ty,pos,after,none⟩::l) Q st:=by
 intro w0 im0 cx a w h0 hG r
 refine wpList_step (fun K' hK'=>?_)
 have hw:Region.wanted ⟨dst,.call ⟨.builtin .copy,#[x,y],#[t,tx]⟩,ty,pos,after,none⟩ (yielded ops a.tmps)=true:=rfl
 rw[if_pos hw]
 have hv:=r.ev x
 rw[hx] at hv
 obtain⟨w',hrun,r2⟩:=Ku (P:=E.P) (tx:=tx) (ty:=ty) r hai hv (r.ev y) hsrc ho hfit hxl hpos
 refine eI (w':=w') (v:=goInt xs.length) ?_ (hK' _ _ (h w0 im0 _ _ _ h0 hG (r2.put dst (.base (.v _)))))
 simp[execOp,resolve,invoke,Sem.run_bind,builtin,hrun]
theorem al.Kt{E:Env}{Q:Exit→St→Prop}{st:St}{ops:Array Oper}{l:List Oper}{dst:Option Tmp}{t tx ty:TypeId}{x y:Operand}{pos:String}{after:Array Edge}{e:TypeId}{k n id off:Nat}
 (hai:cL E.P t=some (e,k,n)) (hx:st.ev x= .mu id k off 0 0) (hsrc:fB (st.ev y) k=some [])
 (h:al E ops l Q (St.put st dst (.v (goInt 0)))):al E ops (⟨dst,.call ⟨.builtin .copy,#[x,y],#[t,tx]⟩,ty,pos,after,none⟩::l) Q st:=by
 intro w0 im0 cx a w h0 hG r
 refine wpList_step (fun K' hK'=>?_)
 have hw:Region.wanted ⟨dst,.call ⟨.builtin .copy,#[x,y],#[t,tx]⟩,ty,pos,after,none⟩ (yielded ops a.tmps)=true:=rfl
 rw[if_pos hw]
 obtain⟨hu,hs,hk0,ii,zv,hi,hz,hsize,hbytes,hzs⟩:=gj hai
 have hv:=r.ev x
 rw[hx] at hv
 obtain⟨news,hnl,hcells,hlen,hone,hfirst⟩:=oE (P:=E.P) r (r.ev y) hk0 hsrc
 have hn0:news=[]:=List.eq_nil_of_length_eq_zero (by rw[hnl];simp)
 subst hn0
 have hso:=dq hs w
 have hrun:(Builtin.copy_ #[t,tx] ty #[a.eval x,a.eval y]).run E.P w= .ok (goInt 0) w:=by
  rcases hv.cW with⟨g,hb,hcap,hve⟩|⟨_,_,hve⟩
  ·rw[hve]
   have hf:=hfirst w (fun _ _=>rfl)
   have hl:=hlen w
   simp only[List.length_nil] at hf hl
   simp only[Builtin.copy_,List.getElem?_toArray,List.getElem?_cons_zero,List.getElem?_cons_succ,Sem.run_bind,bV hu,Result.andThen_ok,hl,hso,Nat.min_self,show Nat.min 0 0=0 from rfl,hf,Sem.run_pure]
   simp[storeCells]
  ·rw[hve]
   have hf:=hfirst w (fun _ _=>rfl)
   have hl:=hlen w
   simp only[List.length_nil] at hf hl
   simp only[Builtin.copy_,List.getElem?_toArray,List.getElem?_cons_zero,List.getElem?_cons_succ,Sem.run_bind,bV hu,Result.andThen_ok,hl,hso,show Nat.min 0 0=0 from rfl,hf,Sem.run_pure]
   simp
 refine eI (w':=w) (v:=goInt 0) ?_ (hK' _ _ (h w0 im0 _ _ _ h0 hG (r.put dst (.base (.v _)))))
 simp[execOp,resolve,invoke,Sem.run_bind,builtin,hrun]
theorem al.Ta{E:Env}{Q:Exit→St→Prop}{st:St}{ops:Array Oper}{l:List Oper}{dst:Option Tmp}{t ty:TypeId}{pos:String}{after:Array Edge}{x y:Operand}{kl kc:IntKind}{e:TypeId}{k n m:Nat}{zs:List AV}{z:AV}
 (hai:cL E.P t=some (e,k,n)) (hzv:cZ E.P e=some zs) (hx:st.ev x= .v (.int kl (m:Int))) (hy:st.ev y= .v (.int kc (m:Int))) (hz':z.leaves=zs) (hm:m≤100000) (hk:k≤100) (hn:n≤100000)
 (h:al E ops l Q (St.put { st with own:=st.own++[some (List.replicate m z)] } dst (.mu st.own.length k 0 m m))):al E ops (⟨dst,.makeSlice t x y,ty,pos,after,none⟩::l) Q st:=by
 intro w0 im0 cx a w h0 hG r
 refine wpList_step (fun K' hK'=>?_)
 have hw:Region.wanted ⟨dst,.makeSlice t x y,ty,pos,after,none⟩ (yielded ops a.tmps)=true:=rfl
 rw[if_pos hw]
 obtain⟨hu,hs,hk0,i,zv,hi,hz,hsize,hbytes,hzs⟩:=gj hai
 have hzl:zs=zv.cells.toList.map gS∧zs.all AV.eo=true:=by
  unfold cZ at hzv
  simp only[hi,hz,Option.bind_some] at hzv
  split at hzv
  ·rename_i hall
   simp only[Option.some.injEq] at hzv
   exact⟨hzv.symm,by rw[←hzv];exact hall⟩
  ·simp at hzv
 have ex:a.eval x= .int kl (m:Int):=by have:=r.ev x;rw[hx] at this;exact this.bc
 have ey:a.eval y= .int kc (m:Int):=by have:=r.ev y;rw[hy] at this;exact this.bc
 have hsz:m*i.size≤16777216:=by rw[hsize];exact Nat.le_trans (Nat.mul_le_mul hm hk) aj
 have hby:(i.bytes:Int)*(m:Int)≤281474976710656:=by
  rw[hbytes]
  have:n*m≤100000*100000:=Nat.mul_le_mul hn hm
  have h2:((n*m:Nat):Int)≤281474976710656:=by omega
  rwa[Int.natCast_mul] at h2
 have hrun:=run_makeSlice (P:=E.P) (w:=w) t e i zv hu hi hz kl kc (m:Int) (m:Int) ab (Int.le_refl _) (by simpa using hsz) hby ab
 simp only[Int.toNat_natCast] at hrun
 have hlen:zs.length=k:=by rw[hzl.1];simp[hzs]
 have hcells:cu cx k (List.replicate m z) (madeCells zv.cells (m*i.size)).toList:=by
  refine⟨fun j e hj=>?_,fun j e q u hj hq=>?_⟩
  ·rw[List.getElem?_replicate] at hj
   split at hj
   ·simp only[Option.some.injEq] at hj;subst hj;rw[hz'];exact hlen
   ·simp at hj
  ·rw[List.getElem?_replicate] at hj
   split at hj
   ·rename_i hjm
    simp only[Option.some.injEq] at hj;subst hj
    rw[hz'] at hq
    have hqk:q<k:=by rw[←hlen];exact bO hq
    have hqz:q<zv.cells.size:=by omega
    have hu1:u=gS zv.cells[q]:=by
     rw[hzl.1,List.getElem?_map] at hq
     simp[hqz] at hq
     exact hq.symm
    have hlt:j*k+q<m*i.size:=by rw[hsize];exact lK hjm hqk
    have hmod:(j*k+q)%zv.cells.size=q:=by rw[hzs,Nat.mul_comm,Nat.mul_add_mod,Nat.mod_eq_of_lt hqk]
    refine⟨zv.cells[q],?_,?_⟩
    ·simp only[madeCells,Array.toList_map,List.getElem?_map,Array.toList_range,List.getElem?_range hlt,Option.map_some,hmod]
     simp[hqz]
    ·have hv:aT cx.im u zv.cells[q]:=by rw[hu1];exact pq _ _
     have hlf:u.eo=true:=List.all_eq_true.1 hzl.2 u (List.mem_of_getElem? hq)
     exact⟨.base hv,.inr (VR.eo (c:=cx) (.base hv) hlf)⟩
   ·simp at hj
 obtain⟨hle,r2⟩:=r.oR (ns w (.cells (madeCells zv.cells (m*i.size)) e)) (g:=w.heap.size) (k:=k) (es:=List.replicate m z) (Nat.le_refl _)
  ⟨madeCells zv.cells (m*i.size),e,0,0,js w _,.inl rfl,by rw[size_madeCells,hsize,List.length_replicate];exact Nat.le_refl _,hcells.1,fun j e' q u hj hq=>by
    obtain⟨v,h1,h2⟩:=hcells.2 j e' q u hj hq
    exact⟨v,by simpa using h1,h2⟩⟩
 have hv:VR { cx with β:=cx.β++[some (w.heap.size,k)] } (.mu st.own.length k 0 m m) (.slice (some ⟨w.heap.size,0,none⟩) m m):=by
  have hb:(cx.β++[some (w.heap.size,k)])[st.own.length]?=some (some (w.heap.size,k)):=by
   rw[←r.bS,List.getElem?_append_right (Nat.le_refl _)];simp
  have:=VR.mu (c:={ cx with β:=cx.β++[some (w.heap.size,k)] }) (id:=st.own.length) (off:=0) (len:=m) (cap:=m) hb (Nat.le_refl _)
  rwa[Nat.zero_mul] at this
 refine eI (w':=w.alloc (.cells (madeCells zv.cells (m*i.size)) e)) (v:= .slice (some ⟨w.heap.size,0,none⟩) m m) ?_ (hK' _ _ (h w0 im0 _ _ _ h0 hG (r2.put dst hv)))
 simp only[execOp,ex,ey,Sem.run_bind,hrun,Result.andThen_ok,Sem.run_pure]
section
variable{P:Program}{w0:World}{im0:cU}{c:Ctx}{st:St}{a:Act}{w:World}
theorem PG(r:Rel w0 im0 c st a w){t tn ty e:TypeId}{k n':Nat}{kn kq:IntKind}(hai:cL P t=some (e,k,n'))(htn:P.underlying tn=some (.int kn)){id i cap q:Nat}{es:List AV}{v:Value}
 (hv:VR c (.mu id k 0 i cap) v) (ho:st.own[id]?=some (some es)) (hc:0<cap) (hie:i≤es.length) (hq:0<q) (hg:cap<i+q) (h62:i+q≤4611686018427387904) (hbt:(i+q)*n'≤140737488355328):
 ∃v' w' c' m,(Builtin.append_ #[t,tn] ty #[v,.int kq (q:Int)]).run P w= .ok v' w'∧Rel w0 im0 c' { st with own:=st.own++[some (es.take i++spare k (q+m))] } a w'∧VR c' (.mu st.own.length k 0 (i+q) (i+q+m)) v':=by
 obtain⟨hu,hs,hk0,ii,zv,hi,hz,hsize,hbytes,hzs⟩:=gj hai
 rcases hv.cW with⟨g,hb,hcap,hve⟩|⟨_,hz2,_⟩
 rotate_left
 ·omega
 have hown:=r.own id g k _ hb ho
 obtain⟨cs,ty',lo,hi2,hblk,hfr,hsz,hlv,hcell⟩:=hown.aZ
 rw[Nat.zero_mul] at hve
 have hoc:cu c k es cs.toList:=⟨hlv,fun i e j x he hx=>by obtain⟨u,h1,h2⟩:=hcell i e j x he hx;exact⟨u,by simpa using h1,h2⟩⟩
 have hq':cs.toList.length=cs.size:=Array.length_toList
 have hmul:i*k≤es.length*k:=Nat.mul_le_mul_right _ hie
 have hol:(cs.toList.take (i*k)).length=i*k:=by rw[List.length_take,hq'];omega
 have hof:(Builtin.firstCells ii.size i (.slice (some ⟨g,0,none⟩) i cap)).run P w.drew= .ok (cs.toList.take (i*k)).toArray w.drew:=by
  rw[hsize]
  exact run_firstCells_some w.drew k i ⟨g,0,none⟩ i _ _ hol (fun j u hj=>by
   rw[fC,Nat.zero_add]
   rw[List.getElem?_take] at hj
   split at hj
   ·show w.cell? ⟨g,j,none⟩=some u
    simp only[World.cell?,hblk,Option.isSome_none,Bool.false_eq_true,if_false];simpa using hj
   ·simp at hj)
 have hbq:q*ii.bytes≤281474976710656:=by
  rw[hbytes]
  have:=Nat.mul_le_mul_right n' (show q≤i+q by omega)
  omega
 have hfit:Builtin.nextslicecap (i+q) cap*ii.bytes≤281474976710656:=growslice_fits hg (by rw[hbytes];exact hbt)
 have hrun:=Go.Lib.run_append_grow_zeros (P:=P) w t tn ty e ii zv kq kn hu htn hi hz (some ⟨g,0,none⟩) i cap _ hof q hq (by rw[hsize];exact hk0) hg ab hbq hfit
 have hC:=grownCap_ge w (i+q) cap e
 refine⟨_,_,_,grownCap w (i+q) cap e-(i+q),by rw[hve];exact hrun,(r.oR (k:=k) (g:=w.heap.size) (es:=es.take i++spare k (q+(grownCap w (i+q) cap e-(i+q)))) (oY w _) (Nat.le_refl _) ⟨_,e,0,0,js w.drew _,.inl rfl,?_,?_⟩).2,?_⟩
 ·simp only[Array.size_append,List.size_toArray,hol,mZ,hzs,List.length_append,List.length_take,cY,Nat.min_eq_left hie,Nat.add_mul];omega
 ·have hcells:cu c k (es.take i++spare k (q+(grownCap w (i+q) cap e-(i+q)))) (cs.toList.take (i*k)++((Builtin.zeroCells zv.cells q).toList++(Builtin.zeroCells zv.cells (grownCap w (i+q) cap e-(i+q))).toList)):=
   (hoc.takeN i hie).append (by rw[hol,List.length_take,Nat.min_eq_left hie]) (cu.spare (by simp only[List.length_append,Array.length_toList,mZ,hzs,Nat.add_mul];exact Nat.le_refl _))
  refine⟨hcells.1,fun i e j x he hx=>?_⟩
  obtain⟨u,h1,h2⟩:=hcells.2 i e j x he hx
  refine⟨u,?_,h2⟩
  rw[←Array.getElem?_toList]
  simpa using h1
 ·have:=VR.mu (c:={ c with β:=c.β++[some (w.heap.size,k)] }) (id:=st.own.length) (off:=0) (len:=i+q) (g:=w.heap.size) (k:=k) (cap:=grownCap w (i+q) cap e) (by show(c.β++[_])[_]?=_;rw[←r.bS];simp) hC
  rw[Nat.zero_mul] at this
  rw[show i+q+(grownCap w (i+q) cap e-(i+q))=grownCap w (i+q) cap e by omega]
  exact this
theorem Kv(r:Rel w0 im0 c st a w){t tx ty e:TypeId}{k n':Nat}(hai:cL P t=some (e,k,n')){id off len cap id2 o j cy m:Nat}{es es2:List AV}{v xv:Value}
 (hv:VR c (.mu id k off len cap) v) (hxv:VR c (.mu id2 k o j cy) xv) (ho:st.own[id]?=some (some es)) (ho2:st.own[id2]?=some (some es2)) (hm:Nat.min j len=m) (hfit:off+m≤es.length) (hoj:o+m≤es2.length) (hpos:0<len) (hposj:0<j)
 (hna:∀e∈(es2.drop o).take m,∀x∈e.leaves,x≠.any):
 ∃w',(Builtin.copy_ #[t,tx] ty #[v,xv]).run P w= .ok (goInt m) w'∧Rel w0 im0 c { st with own:=st.own.set id (some (es.take off++((es2.drop o).take m++es.drop (off+m)))) } a w':=by
 obtain⟨hu,hs,hk0,ii,zv,hi,hz,hsize,hbytes,hzs⟩:=gj hai
 rcases hv.cW with⟨g,hb,hcap,hve⟩|⟨hl0,_,_⟩
 rotate_left
 ·omega
 rcases hxv.cW with⟨g2,hb2,hcap2,hxe⟩|⟨hl0,_,_⟩
 rotate_left
 ·omega
 have hown:=r.own id g k _ hb ho
 obtain⟨cs,ty',lo,hi',hblk,hfr,hsz,hlv,hcell⟩:=hown.aZ
 have hown2:=r.own id2 g2 k _ hb2 ho2
 obtain⟨ds,ty2,lo2,hi2,hblk2,hfr2,hsz2,hlv2,hcell2⟩:=hown2.aZ
 have hoc:cu c k es cs.toList:=⟨hlv,fun i e j x he hx=>by obtain⟨u,h1,h2⟩:=hcell i e j x he hx;exact⟨u,by simpa using h1,h2⟩⟩
 have hoc2:cu c k es2 ds.toList:=⟨hlv2,fun i e j x he hx=>by obtain⟨u,h1,h2⟩:=hcell2 i e j x he hx;exact⟨u,by simpa using h1,h2⟩⟩
 have hq:cs.toList.length=cs.size:=Array.length_toList
 have hq2:ds.toList.length=ds.size:=Array.length_toList
 have hmul:(off+m)*k≤es.length*k:=Nat.mul_le_mul_right _ hfit
 have hmul2:(o+m)*k≤es2.length*k:=Nat.mul_le_mul_right _ hoj
 rw[Nat.add_mul] at hmul hmul2
 obtain⟨news,hnews⟩:∃news,news=(ds.toList.drop (o*k)).take (m*k):=⟨_,rfl⟩
 have hnl:news.length=m*k:=by rw[hnews,List.length_take,List.length_drop,hq2];omega
 have hone:∀u∈news,u.oneCell'=true:=by
  intro u hu'
  obtain⟨q,hq'⟩:=List.mem_iff_getElem?.1 hu'
  rw[hnews,List.getElem?_take] at hq'
  split at hq'
  ·rename_i hqlt
   rw[List.getElem?_drop] at hq'
   have hdm:=Nat.div_add_mod q k
   have hmod:=Nat.mod_lt q hk0
   have hdiv:q/k<m:=Nat.div_lt_of_lt_mul (by rw[Nat.mul_comm];exact hqlt)
   have hel:es2[o+q/k]?=some (es2[o+q/k]' ab):=List.getElem?_eq_getElem ab
   have hlen:=hlv2 _ _ hel
   have hlf:(es2[o+q/k]' ab).leaves[q%k]?=some ((es2[o+q/k]' ab).leaves[q%k]' ab):=List.getElem?_eq_getElem ab
   obtain⟨v2,e1,e2,e3⟩:=hcell2 _ _ _ _ hel hlf
   have hidx:(o+q/k)*k+q%k=o*k+q:=by
    rw[Nat.add_mul,Nat.mul_comm (q/k) k];omega
   rw[hidx] at e1
   have:u=v2:=by
    have h1:ds.toList[o*k+q]?=some v2:=by simpa using e1
    rw[h1] at hq';exact(Option.some.inj hq').symm
   subst this
   refine e3.resolve_left (hna _ ?_ _ (List.mem_of_getElem? hlf))
   refine List.mem_iff_getElem?.2 ⟨q/k,?_⟩
   rw[List.getElem?_take,if_pos hdiv,List.getElem?_drop];exact hel
  ·simp at hq'
 have hfro:∀o,o<cs.toList.length→¬(lo≤o∧o<hi'):=fun o h1 h2=>by
  have h1:o<cs.size:=by simpa using h1
  rcases hfr with h|h<;>omega
 have hcs:cs=cs.toList.toArray:=by simp
 have hfit2:off*k+0+news.length≤cs.toList.length:=by rw[hnl,hq];omega
 have hst:=lW (P:=P) g (off*k) ty' lo hi' news 0 cs.toList w (by rw[←hcs];exact hblk) hfro hfit2 hone
 rw[Nat.add_zero] at hst
 have hfirst:(Builtin.firstCells k m xv).run P w= .ok news.toArray w:=by
  rw[hxe]
  exact run_firstCells_some w k m ⟨g2,o*k,none⟩ j _ _ hnl (fun p u hp=>by
   rw[fC]
   rw[hnews,List.getElem?_take] at hp
   split at hp
   ·rw[List.getElem?_drop] at hp
    simp only[World.cell?,hblk2,Option.isSome_none,Bool.false_eq_true,if_false];simpa using hp
   ·simp at hp)
 have hlenx:(Builtin.lenOf xv).run P w= .ok j w:=by rw[hxe];simp[Builtin.lenOf]
 have hrun:(Builtin.copy_ #[t,tx] ty #[v,xv]).run P w= .ok (goInt m) (w.setRow g (ch cs.toList (off*k) news).toArray):=by
  have hso:=dq hs w
  subst hve
  simp only[Builtin.copy_,List.getElem?_toArray,List.getElem?_cons_zero,List.getElem?_cons_succ,Sem.run_bind,bV hu,Result.andThen_ok,hlenx,hso,hm,hfirst,hst,Sem.run_pure]
 have hcs'len:(ch cs.toList (off*k) news).length=cs.size:=by rw[gz];simp
 have hOC:cu c k (es.take off++((es2.drop o).take m++es.drop (off+m))) (ch cs.toList (off*k) news):=by
  have e1:ch cs.toList (off*k) news=cs.toList.take (off*k)++(news++cs.toList.drop ((off+m)*k)):=by
   apply List.ext_getElem?
   intro p
   have htl:(cs.toList.take (off*k)).length=off*k:=by rw[List.length_take,hq];omega
   rw[jX _ _ _ _ (by simpa using hfit2)]
   by_cases hp:p<off*k
   ·rw[if_neg ab,List.getElem?_append_left (by rw[htl];exact hp),List.getElem?_take,if_pos hp]
   ·rw[List.getElem?_append_right (by rw[htl];omega),htl]
    by_cases hp2:p<off*k+news.length
    ·rw[if_pos ⟨by omega,hp2⟩,List.getElem?_append_left ab]
    ·rw[if_neg ab,List.getElem?_append_right ab,List.getElem?_drop,hnl,Nat.add_mul]
     congr 1;rw[hnl] at hp2;omega
  rw[e1]
  refine(hoc.takeN off ab).append (by rw[List.length_take,List.length_take,hq,Nat.min_eq_left (show off≤es.length by omega)];omega) ?_
  rw[hnews]
  refine((hoc2.drop o).takeN m (by rw[List.length_drop];omega)).append (by rw[←hnews,hnl,List.length_take,List.length_drop,Nat.min_eq_left ab]) (hoc.drop (off+m))
 have hnewlen:(es.take off++((es2.drop o).take m++es.drop (off+m))).length=es.length:=by simp only[List.length_append,List.length_take,List.length_drop];omega
 have hset:=r.oB (w':=w.setRow g (ch cs.toList (off*k) news).toArray) (es':=es.take off++((es2.drop o).take m++es.drop (off+m))) hb ho (fun b hne=>setRow_other w g b _ hne) (below_setRow r.below hown.new _)
  ⟨(ch cs.toList (off*k) news).toArray,ty',lo,hi',setRow_heap w g cs _ ty' (lo,hi') hblk,by
    rcases hfr with h|h
    ·exact .inl h
    ·exact .inr (by simpa[gz] using h),by
    rw[hnewlen];simp only[List.size_toArray,hcs'len];exact hsz,hOC.1,fun i e j x he hx=>by
    obtain⟨u,h1,h2⟩:=hOC.2 i e j x he hx
    exact⟨u,by simpa using h1,h2⟩⟩
 exact⟨_,hrun,hset⟩
theorem U2(r:Rel w0 im0 c st a w){t tR e:TypeId}{t0:Option Nat}{k id off len cap:Nat}{es xs:List AV}{v xv:Value}(hu:P.underlying t=some (.slice e))(hs:bf P e=some k)(hk:1<k)
 (hxv:VR c (.sl t0 k xs) xv) (hv:VR c (.mu id k off len cap) v) (ho:st.own[id]?=some (some es)) (hx0:xs≠[]) (hlen:0<len) (hoff:off<es.length):
 (Extern.SlicesOverlaps.overlaps #[t,t] #[tR] #[xv,v]).run P w= .ok (.bool false) w:=by
 rcases hv.cW with⟨g,hb,hcap,hve⟩|⟨hl0,_,_⟩
 rotate_left
 ·omega
 have hown:=r.own id g k _ hb ho
 obtain⟨cs,ty',lo,hi',hblk,hfr,hsz,hlv,hcell⟩:=hown.aZ
 have hlh:lo=hi':=by rcases hfr with h|h<;>omega
 have hmul:(off+1)*k≤es.length*k:=Nat.mul_le_mul_right _ hoff
 rw[Nat.add_mul] at hmul
 have h:=hxv.fu
 cases h with
 |de=>exact absurd rfl hx0
 |sl _ _ b o cap2 cv hc2 hk2 hm2 h12 hv2=>
  obtain⟨x,xs',rfl⟩:∃x xs',xs=x::xs':=by cases xs with|nil=>exact absurd rfl hx0|cons x xs'=>exact⟨_,_,rfl⟩
  have hlx:=hk2 0 x rfl
  have him:=hm2 0 x 0 (x.leaves[0]' ab) rfl (List.getElem?_eq_getElem ab)
  have hcell2:=r.ck _ _ _ him
  have hne:b≠g:=fun e=>by subst e;rw[hown.im] at him;simp at him
  obtain⟨ds,ty2,fr2,hblk2,hds⟩:∃ds ty2 fr2,w.heap[b]?=some (.cells ds ty2 fr2)∧ds.size≠0:=by
   unfold World.cell? at hcell2
   cases hbb:w.heap[b]? with
   |none=>simp[hbb] at hcell2
   |some ob=>
    cases ob with
    |cells ds ty2 fr2=>
     refine⟨ds,ty2,fr2,rfl,fun h0=>?_⟩
     have:ds= #[]:=Array.eq_empty_of_size_eq_zero h0
     subst this
     simp[hbb] at hcell2
    |_=>simp[hbb] at hcell2
  subst hve
  have hnb:(b !=g)=true:=by simpa using hne
  have hnb':(b==g)=false:=by simpa using hne
  have hsa:w.shape? b=some (ty2,ds.size):=by simp only[World.shape?,hblk2]
  have hsb:w.shape? g=some (ty',cs.size):=by simp only[World.shape?,hblk]
  have hfb:∀o,w.frozen? ⟨g,o,none⟩=false:=fun o=>by simp only[World.frozen?,hblk];subst hlh;simp
  obtain⟨n1,hn1⟩:∃n,ds.size=n+1:=⟨ds.size-1,by omega⟩
  obtain⟨n2,hn2⟩:∃n,cs.size=n+1:=⟨cs.size-1,by omega⟩
  rw[hn1] at hsa;rw[hn2] at hsb
  have hz:=dq hs
  change Sem.run P (α:=Value) (do
   let some t:=(#[t,t]:Array TypeId)[0]?|stuck "slices.overlaps: no parameter types"
   let .slice elem ←underlying t|stuck "slices.overlaps: slice type expected"
   let size ←sizeOf elem
   match(some ⟨b,o,none⟩:Option Addr),(some ⟨g,off*k,none⟩:Option Addr) with
   |some a,some b=>
    if(x::xs').length=0∨len=0∨size=0 then pure (Value.bool false)
    else if a.block !=b.block&&(←frozen a)&&(←frozen b) then unsupported .addressObserved
    else do
     if a.block !=b.block then do
      noView a;noView b
      if ←mayBeOne a b then return Value.bool ((←choose (.extern "sameAddr.stringBytes" 2))==1)
     pure (Value.bool (a.block==b.block&&a.off<b.off+len*size&&b.off<a.off+(x::xs').length*size))
   |_,_=>pure (Value.bool false)) w=_
  have hk0:¬k=0:=by omega
  have hl0:¬len=0:=by omega
  simp only[List.length_cons,Nat.succ_ne_zero,hl0,hk0,false_or,or_self,if_false]
  by_cases hfa:w.frozen? ⟨b,o,none⟩=true<;>by_cases hfe:w.frozen? ⟨b,n1+1,none⟩=true<;>
   simp[bV hu,hz,hnb,hnb',frozen,noView,viewAt,mayBeOne,stringish,shape,Sem.run,hsa,hsb,hfa,hfe,hfb]
end
section
variable{E:Env}{Q:Exit→St→Prop}{st:St}{ops:Array Oper}{l:List Oper}
theorem al.PE{dst:Option Tmp}{t tn ty:TypeId}{x y:Operand}{pos:String}{after:Array Edge}{e:TypeId}{k n id i cap q:Nat}{es:List AV}{kn kq:IntKind}
 (hai:cL E.P t=some (e,k,n)) (htn:E.P.underlying tn=some (.int kn)) (hx:st.ev x= .mu id k 0 i cap) (hy:st.ev y= .v (.int kq (q:Int))) (ho:st.own[id]?=some (some es)) (hc:0<cap) (hie:i≤es.length) (hq:0<q) (hg:cap<i+q) (h62:i+q≤4611686018427387904) (hbt:(i+q)*n≤140737488355328)
 (h:∀m,al E ops l Q (St.put { st with own:=st.own++[some (es.take i++spare k (q+m))] } dst (.mu st.own.length k 0 (i+q) (i+q+m)))):al E ops (⟨dst,.call ⟨.builtin .append,#[x,y],#[t,tn]⟩,ty,pos,after,none⟩::l) Q st:=by
 intro w0 im0 cx a w h0 hG r
 refine wpList_step (fun K' hK'=>?_)
 have hw:Region.wanted ⟨dst,.call ⟨.builtin .append,#[x,y],#[t,tn]⟩,ty,pos,after,none⟩ (yielded ops a.tmps)=true:=rfl
 rw[if_pos hw]
 have hv:=r.ev x
 rw[hx] at hv
 have ey:a.eval y= .int kq (q:Int):=by have:=r.ev y;rw[hy] at this;exact this.bc
 obtain⟨v',w',c',m,h1,h2,h3⟩:=PG (P:=E.P) (ty:=ty) (kq:=kq) r hai htn hv ho hc hie hq hg h62 hbt
 refine eI (w':=w') (v:=v') ?_ (hK' _ _ (h m w0 im0 _ _ _ h0 hG (h2.put dst h3)))
 simp only[execOp,resolve,Sem.run_bind,Sem.run_pure,Result.andThen_ok,invoke,builtin,List.map_toArray,List.map_cons,List.map_nil,ey,h1]
theorem al.xY{dst:Option Tmp}{t tx ty:TypeId}{x y:Operand}{pos:String}{after:Array Edge}{e:TypeId}{k n id off len cap id2 o j cy:Nat}(m:Nat){es es2:List AV}
 (hai:cL E.P t=some (e,k,n)) (hx:st.ev x= .mu id k off len cap) (hy:st.ev y= .mu id2 k o j cy) (ho:st.own[id]?=some (some es)) (ho2:st.own[id2]?=some (some es2)) (hm:Nat.min j len=m) (hfit:off+m≤es.length) (hoj:o+m≤es2.length) (hpos:0<len) (hposj:0<j)
 (hna:∀e∈(es2.drop o).take m,∀x∈e.leaves,x≠.any)
 (h:al E ops l Q (St.put { st with own:=st.own.set id (some (es.take off++((es2.drop o).take m++es.drop (off+m)))) } dst (.v (goInt m)))):al E ops (⟨dst,.call ⟨.builtin .copy,#[x,y],#[t,tx]⟩,ty,pos,after,none⟩::l) Q st:=by
 intro w0 im0 cx a w h0 hG r
 refine wpList_step (fun K' hK'=>?_)
 have hw:Region.wanted ⟨dst,.call ⟨.builtin .copy,#[x,y],#[t,tx]⟩,ty,pos,after,none⟩ (yielded ops a.tmps)=true:=rfl
 rw[if_pos hw]
 have hv:=r.ev x
 rw[hx] at hv
 have hvy:=r.ev y
 rw[hy] at hvy
 obtain⟨w',hrun,r2⟩:=Kv (P:=E.P) (tx:=tx) (ty:=ty) r hai hv hvy ho ho2 hm hfit hoj hpos hposj hna
 refine eI (w':=w') (v:=goInt m) ?_ (hK' _ _ (h w0 im0 _ _ _ h0 hG (r2.put dst (.base (.v _)))))
 simp[execOp,resolve,invoke,Sem.run_bind,builtin,hrun]
theorem al.XB{dst:Option Tmp}{t ty:TypeId}{x hi:Operand}{pos:String}{after:Array Edge}{e:TypeId}{k id off len cap h':Nat}
 (hu:E.P.underlying t=some (.slice e)) (hsz:bf E.P e=some k) (hs:st.ev x= .mu id k off len cap) (hh:st.ev hi=i64 (h':Int)) (h2:h'≤cap) (h3:0<cap)
 (h:al E ops l Q (st.put dst (.mu id k off h' cap))):al E ops (⟨dst,.slice t x none (some hi) none,ty,pos,after,none⟩::l) Q st:=by
 intro w0 im0 cx a w h0' hG r
 refine wpList_step (fun K' hK'=>?_)
 have hw:Region.wanted ⟨dst,.slice t x none (some hi) none,ty,pos,after,none⟩ (yielded ops a.tmps)=true:=rfl
 rw[if_pos hw]
 have hv:=r.ev x
 rw[hs] at hv
 have e2:a.eval hi= .int .i64 (h':Int):=by have:=r.ev hi;rw[hh] at this;exact this.bc
 rcases hv.cW with⟨g,hb,hcap,hve⟩|⟨hz,hz2,_⟩
 rotate_left
 ·omega
 have hrun:(Instr.sliceAt t (a.eval x) none (some (a.eval hi)) none).run E.P w= .ok (.slice (some ⟨g,off*k,none⟩) h' cap) w:=by
  rw[e2,hve]
  have hbd:(Instr.sliceBounds true len cap none (some (.int .i64 (h':Int))) none).run E.P w= .ok (0,h',cap) w:=by
   have e1:∀code,(Instr.sliceBound (.int .i64 (h':Int)) cap code).run E.P w= .ok h' w:=fun code=>(ki ab ab).trans aB
   simp[Instr.sliceBounds,Sem.run_bind,e1]
  simp only[Instr.sliceAt,Sem.run_bind,bV hu,Result.andThen_ok,Instr.slice,hbd,dq hsz,Sem.run_pure]
  have hne:¬cap=0:=by omega
  simp[hne,Addr.add]
 refine eI (w':=w) (v:= .slice (some ⟨g,off*k,none⟩) h' cap) ?_ (hK' _ _ (h w0 im0 _ _ _ h0' hG (r.put dst (.mu hb ab))))
 simp only[execOp,Option.map_some,Option.map_none,Sem.run_bind,hrun,Result.andThen_ok,Sem.run_pure]
theorem al.FB{dst:Option Tmp}{t ty:TypeId}{x:Operand}{pos:String}{after:Array Edge}{e:TypeId}{k id off len cap:Nat}
 (hu:E.P.underlying t=some (.slice e)) (hs:st.ev x= .mu id k off len cap)
 (h:al E ops l Q (st.put dst (i64 (cap:Int)))):al E ops (⟨dst,.call ⟨.builtin .cap,#[x],#[t]⟩,ty,pos,after,none⟩::l) Q st:=by
 intro w0 im0 cx a w h0 hG r
 refine wpList_step (fun K' hK'=>?_)
 have hw:Region.wanted ⟨dst,.call ⟨.builtin .cap,#[x],#[t]⟩,ty,pos,after,none⟩ (yielded ops a.tmps)=true:=rfl
 rw[if_pos hw]
 have hv:=r.ev x
 rw[hs] at hv
 have hrun:(Builtin.cap_ #[t] ty #[a.eval x]).run E.P w= .ok (goInt cap) w:=by
  rcases hv.cW with⟨g,_,_,hve⟩|⟨_,hz2,hve⟩
  ·rw[hve];simp[Builtin.cap_,bV hu]
  ·subst hz2;rw[hve];simp[Builtin.cap_,bV hu]
 refine eI (w':=w) (v:=goInt cap) ?_ (hK' _ _ (h w0 im0 _ _ _ h0 hG (r.put dst (.base (.v _)))))
 simp[execOp,resolve,invoke,Sem.run_bind,builtin,hrun]
theorem al.XC{dst:Option Tmp}{t ty:TypeId}{x lo:Operand}{pos:String}{after:Array Edge}{e:TypeId}{k id off len cap l':Nat}
 (hu:E.P.underlying t=some (.slice e)) (hsz:bf E.P e=some k) (hs:st.ev x= .mu id k off len cap) (hl:st.ev lo=i64 (l':Int)) (h1:l'≤len)
 (h:al E ops l Q (st.put dst .any)):al E ops (⟨dst,.slice t x (some lo) none none,ty,pos,after,none⟩::l) Q st:=by
 intro w0 im0 cx a w h0' hG r
 refine wpList_step (fun K' hK'=>?_)
 have hw:Region.wanted ⟨dst,.slice t x (some lo) none none,ty,pos,after,none⟩ (yielded ops a.tmps)=true:=rfl
 rw[if_pos hw]
 have hv:=r.ev x
 rw[hs] at hv
 have e1:a.eval lo= .int .i64 (l':Int):=by have:=r.ev lo;rw[hl] at this;exact this.bc
 have hval:∃u,(Instr.sliceAt t (a.eval x) (some (a.eval lo)) none none).run E.P w= .ok u w:=by
  rw[e1]
  have key:∀(b:Option Addr) (len cap:Nat),l'≤len→∃u,(Instr.sliceAt t (.slice b len cap) (some (.int .i64 (l':Int))) none none).run E.P w= .ok u w:=by
   intro b len cap hm3
   refine⟨.slice (if cap=l' then b else b.map (·.add (l'*k))) (len-l') (cap-l'),?_⟩
   simp only[Instr.sliceAt,Sem.run_bind,bV hu,Result.andThen_ok,Instr.slice,xJ (P:=E.P) (w:=w) hm3,dq hsz,Sem.run_pure]
  rcases hv.cW with⟨g,hb,hcap,hve⟩|⟨hz,hz2,hve⟩
  ·rw[hve];exact key _ _ _ h1
  ·rw[hve];exact key _ _ _ ab
 obtain⟨u,hrun⟩:=hval
 refine eI (w':=w) (v:=u) ?_ (hK' _ _ (h w0 im0 _ _ _ h0' hG (r.put dst (.base (.any _)))))
 simp only[execOp,Option.map_some,Option.map_none,Sem.run_bind,hrun,Result.andThen_ok,Sem.run_pure]
theorem al.U1{dst:Option Tmp}{t tR ty:TypeId}{x y:Operand}{tys:Array TypeId}{pos:String}{after:Array Edge}{g:FuncId}{e:TypeId}{t0:Option Nat}{k id off len cap:Nat}{es xs:List AV}
 (hcf:∀(v u:Value) (w:World),(Extern.SlicesOverlaps.overlaps #[t,t] #[tR] #[v,u]).run E.P w= .ok (.bool false) w→(callFunc g #[v,u]).run E.P w= .ok (.value (.bool false)) w)
 (hu:E.P.underlying t=some (.slice e)) (hs:bf E.P e=some k) (hk:1<k) (hx:st.ev x= .sl t0 k xs) (hy:st.ev y= .mu id k off len cap) (ho:st.own[id]?=some (some es)) (hx0:xs≠[]) (hlen:0<len) (hoff:off<es.length)
 (h:al E ops l Q (st.put dst (.v (.bool false)))):al E ops (⟨dst,.call ⟨.value (.func g),#[x,y],tys⟩,ty,pos,after,none⟩::l) Q st:=by
 intro w0 im0 cx a w h0 hG r
 refine wpList_step (fun K' hK'=>?_)
 have hw:Region.wanted ⟨dst,.call ⟨.value (.func g),#[x,y],tys⟩,ty,pos,after,none⟩ (yielded ops a.tmps)=true:=rfl
 rw[if_pos hw]
 have hxv:=r.ev x
 rw[hx] at hxv
 have hyv:=r.ev y
 rw[hy] at hyv
 have hrun:=U2 (P:=E.P) (tR:=tR) r hu hs hk hxv hyv ho hx0 hlen hoff
 have hc:=hcf _ _ w hrun
 refine eI (w':=w) (v:= .bool false) ?_ (hK' _ _ (h w0 im0 _ _ _ h0 hG (r.put dst (.base (.v _)))))
 have he':a.eval (.func g)= .func (.func g) #[] #[]:=rfl
 have hargs:Array.map a.eval #[x,y]= #[a.eval x,a.eval y]:=by simp
 simp only[execOp,resolve,he',Deferred.ofValue,Sem.run_bind,Sem.run_pure,Result.andThen_ok,invoke,Array.empty_append,Array.append_empty,hargs,hc]
end
end Go.az
end
section
namespace Go.Proofs.YthoonfpkfdjhiaaGreatDoor
open Go Go.az Go.RowKit Go.Shelf
def sA:Go.Shelf.Ren:=⟨fun|4=>140|n=>n,fun|0=>0|3=>3|4=>4|9=>9|20=>20|22=>30|25=>5|n=>n,fun|n=>n⟩
theorem ze:Go.Proofs.Lays8.n4 Tryz.prog sA:={
 mixed:=by kernel_rfl
 f4:=⟨Tryz.f140.name,by kernel_rfl,Tryz.func140.trans (congrArg some ae)⟩
 t0:=Tryz.underlying0
 a0:=Tryz.isAgg0
 z0:=Tryz.sizeOf0
 v0:=Tryz.zeroValue0
 t3:=Tryz.underlying3
 a3:=Tryz.isAgg3
 z3:=Tryz.sizeOf3
 v3:=Tryz.zeroValue3
 t4:=Tryz.underlying4
 a4:=Tryz.isAgg4
 z4:=Tryz.sizeOf4
 v4:=Tryz.zeroValue4
 t9:=Tryz.underlying9
 a9:=Tryz.isAgg9
 z9:=Tryz.sizeOf9
 v9:=Tryz.zeroValue9
 t20:=Tryz.underlying20
 a20:=Tryz.isAgg20
 z20:=Tryz.sizeOf20
 v20:=Tryz.zeroValue20
 t22:=Tryz.underlying30
 a22:=Tryz.isAgg30
 z22:=Tryz.sizeOf30
 v22:=Tryz.zeroValue30 }
theorem PF(n:Nat)(hn:n≤1000000):ai E 140 [.aw,i64 n] (fun r t=>r= .sl (some 0) 1 []∧t=[0]):=by
 intro w im vs hok hg him hpw
 obtain⟨hl,hp⟩:=hpw
 match vs,hl with
 |[v0,v1],_=>
  have h0:=hp 0 _ v0 rfl rfl
  have h1:=hp 1 _ v1 rfl rfl
  cases h0;cases h1
  by_cases h:n=0
  ·subst h
   refine(Any8.slices_Grow_room ze none 0 0 0 w (Nat.le_refl _) ab ab ab).mono ?_
   rintro e w' ⟨rfl,rfl⟩
   refine⟨_,.sl (some 0) 1 [],[⟨none,0,0,1⟩],im,rfl,Below.refl _ _,.refl _,fun _ _ _=>rfl,him,⟨fun i T b h1 h2=>?_,fun i j T U b d h1 h2 h3 h4 hij=>?_⟩,.tok rfl (.de 1 none 0) rfl (Nat.le_refl _) (fun _=> .inl ⟨rfl,rfl⟩),rfl,rfl⟩
   ·cases i with
    |zero=>simp only[List.getElem?_cons_zero,Option.some.injEq] at h1;subst h1;simp at h2
    |succ i=>simp at h1
   ·cases i with
    |zero=>simp only[List.getElem?_cons_zero,Option.some.injEq] at h1;subst h1;simp at h3
    |succ i=>simp at h1
  ·obtain⟨i0,z,hi0,hz0,hs0,hb0,hzc⟩:∃i0 z,Tryz.prog.info? 5=some i0∧i0.zero=some z∧i0.size=1∧i0.bytes=1∧z.cells.size=1:=by
    obtain⟨_,_,_,i,zv,h1,h2,h3,h4,h5⟩:=gj (P:=Tryz.prog) (t:=30) (e:=5) (k:=1) (n:=1) nk
    exact⟨i,zv,h1,h2,h3,h4,h5⟩
   refine(Any8.slices_Grow_grow ze i0 z hi0 hz0 ab none 0 0 n [] w (Nat.le_refl _) ab (by rw[hb0];omega) ab aB (fun _=>rfl) (fun a ha=>by simp at ha)).mono ?_
   rintro e w' ⟨rfl,rfl⟩
   have hG:=grownCap_ge w (0+n) 0 (sA.t 25)
   have hnone:∀o,im w.heap.size o=none:=fun o=>by
    cases hx:im w.heap.size o with
    |none=>rfl
    |some x=>exact absurd (World.block_lt_of_cell? w ⟨w.heap.size,o,none⟩ (him _ _ _ hx)) (Nat.lt_irrefl _)
   have hblk:∀ob,(w.drew.alloc ob).heap[w.heap.size]?=some ob:=fun ob=>js w.drew ob
   refine⟨_,.sl (some 0) 1 [],[⟨some w.heap.size,0,grownCap w (0+n) 0 (sA.t 25),1⟩],im,rfl,oY (D:=E.dr) w _,.refl _,fun _ _ _=>rfl,fun b o x hx=>?_,⟨fun i T b h1 h2=>?_,fun i j T U b d h1 h2 h3 h4 hij=>?_⟩,
    .tok rfl (.de 1 _ _) rfl (Nat.le_refl _) (fun _=> .inr ⟨_,rfl,rfl⟩),rfl,rfl⟩
   ·have hlt:=World.block_lt_of_cell? w ⟨b,o,none⟩ (him b o x hx)
    rw[cell_of_block ((oY (D:=E.dr) w _).block b hlt)];exact him b o x hx
   ·cases i with
    |succ i=>simp at h1
    |zero=>
     simp only[List.getElem?_cons_zero,Option.some.injEq] at h1;subst h1
     simp only[Option.some.injEq] at h2;subst h2
     refine⟨Nat.le_refl _,Nat.zero_le _,fun o _=>hnone o,_,5,0,0,hblk _,.inl rfl,?_⟩
     show grownCap w (0+n) 0 (sA.t 25)*1≤_
     rw[Array.size_append,Array.size_append,mZ,mZ,hzc]
     simp only[List.size_toArray,List.length_nil]
     omega
   ·cases i with
    |zero=>cases j with
     |zero=>exact absurd rfl hij
     |succ j=>simp at h2
    |succ i=>simp at h1
theorem uR{ls:List (List UInt8)}{i:Nat}{b:List UInt8}(h:ls[i]?=some b):(ls.take (i+1)).flatten=(ls.take i).flatten++b:=by rw[Go.Fld.fI h,List.flatten_append];simp
theorem sy{ls:List (List UInt8)}(i:Nat):(ls.take i).flatten.length≤ls.flatten.length:=by
 conv=>rhs;rw[←List.take_append_drop i ls,List.flatten_append,List.length_append]
 omega
theorem OG{ls:List (List UInt8)}{i:Nat}(h:¬(i:Int)<(ls.length:Int)):(ls.take i).flatten=ls.flatten:=by rw[List.take_of_length_le ab]
theorem o5(ls:List (List UInt8))(hl:ls.flatten.length≤1000000)(hn:ls.length≤1000000):ai E 103 [.sl none 1 (ls.map aU)] (fun r t=>r=aU ls.flatten∧t=[]):=by
 refine ai.aC (n:=36) (rs:=[.tmp 2]) Tryz.func103 rfl Tryz.ntmps103 rfl ?_
 repeat'(first
 |refine aa.ah fun K hK=>?_
 |(
  refine aa.here 4 13 3 rfl ?_
  obtain⟨b,hb⟩:∃b,ls[i]?=some b:=⟨_,List.getElem?_eq_getElem ab⟩
  have hfn:=uR hb
  have hlb:=sy (ls:=ls) (i+1)
  rw[hfn,List.length_append] at hlb
  have hw:IntKind.i64.wrap (((ls.take i).flatten.length:Int)+(b.length:Int))=(((ls.take i).flatten.length+b.length:Nat):Int):=by rw[aN ab ab];simp
  refine aa.region ?_;simp only[go_sem,hb,Option.map_some,List.getElem?_map])
 |(
  refine aa.here 5 15 5 rfl ?_
  refine aa.region ?_;simp only[go_sem,hw])
 |(
  refine aa.here 12 29 3 rfl ?_
  obtain⟨b,hb⟩:∃b,ls[k]?=some b:=⟨_,List.getElem?_eq_getElem ab⟩
  have hfn:=uR hb
  have hlb:=sy (ls:=ls) (k+1)
  rw[hfn,List.length_append] at hlb
  refine aa.region ?_;simp only[go_sem,hb,Option.map_some,List.getElem?_map])
 |(refine aa.region ?_;simp only[go_sem])
 |(refine hK _ ?_;clear hK K)
 |refine aa.block ?_
 |refine aa.cond rfl (fun c=>?_) (fun c=>?_)<;>first|exact Bool.noConfusion c|(try simp only[dD] at c)
 |refine aa.skip ?_
 |(refine aa.exit ?_;simp only[go_sem])
 |(refine ak.of (PF (ls.take i).flatten.length ab) ae rfl ?_;rintro r t ⟨rfl,rfl⟩;simp only[go_sem])
 |((with_reducible refine And.intro ?_ ?_);(focus(first|omega|(simp;done)));(try simp only[hb,go_sem]))
 |(
  refine aa.here 3 12 1 rfl ?_
  refine aa.dY (ι:=Nat) [5,12,13,14,15,16,17,18,19,20,21,22] (fun(i:Nat)=>[(3,i64 ((ls.take i).flatten.length:Nat)),(11,i64 i)]) (fun(i:Nat)=>i≤ls.length∧(ls.take i).flatten.length≤ls.flatten.length) (fun(i:Nat)=>ls.length-i) (0) ?_ ?_ ?_
  ·(try simp only[go_sem]);(repeat'(exact .inr rfl));done
  ·exact⟨by omega,sy 0⟩
  rintro i ⟨h1,h2⟩
  simp only[go_sem])
 |(
  refine aa.here 11 28 1 rfl ?_
  refine aa.dR (ι:=Nat) [8,28,29,30,31,32,33,34] (fun(k:Nat)=>[(6,.sl (some 0) 1 ((ls.take k).flatten.map u8)),(27,i64 k)]) (fun(k:Nat)=>[]) (fun(k:Nat)=>[(ls.take k).flatten.length]) (fun(k:Nat)=>k≤ls.length) (fun(k:Nat)=>ls.length-k) (0) ?_ ?_ ?_
  ·(try simp only[go_sem]);(repeat'(first|refine And.intro ?_ ?_|exact .inr rfl|trivial));done
  ·omega
  rintro k g1
  simp only[go_sem])
 |(
  refine⟨i+1,?_,?_,?_⟩
  ·(try simp only[go_sem]);(try rw[aN ab ab]);(try simp only[uR hb,List.length_append]);(try simp only[go_sem]);(try rw[aN ab ab]);simp
  ·exact⟨by omega,sy (i+1)⟩
  ·(try simp only[]);omega)
 |(
  refine⟨k+1,?_,?_,?_⟩
  ·(try simp only[go_sem]);(try rw[aN ab ab]);(try simp only[hfn,List.length_append]);(try simp only[go_sem]);(try rw[aN ab ab]);simp
  ·omega
  ·(try simp only[]);omega)
 |(
  refine aa.ret ?_
  refine aM.is ?_;simp only[go_sem,aI,aH,aG,aK,aJ,aL]<;>((rw[OG (ls:=ls) (i:=k) ab];done)))
 |refine aa.fin af ?_)
end Go.Proofs.YthoonfpkfdjhiaaGreatDoor
end
section
namespace Go.Proofs.YthoonfpkfdjhiaaGreatDoor
open Go Go.az Go.RowKit
theorem sC{n:Int}(h:Kp.fk n=true):n=0∨n=1:=by
 unfold Kp.fk at h
 simpa using h
theorem sP{d:Kp.Dk}{n:Int}(h:Kp.b6 d=false∨Kp.fk n=false):¬Kp.kC d n=true:=by
 unfold Kp.kC
 rcases h with h|h<;>rw[h]<;>simp
theorem gT{d:Kp.Dk}{n:Int}(h:Kp.b6 d=true)(h2:Kp.fk n=true):Kp.kC d n=true:=by unfold Kp.kC;rw[h,h2];rfl
theorem vX{d:Kp.Dk}{n:Int}(h:Kp.b6 d=false∨Kp.fk n=false):Kp.db d n=[]:=by unfold Kp.db;rw[if_neg (sP h)]
theorem Bm{d:Kp.Dk}(h:Kp.b6 d=true):Kp.db d 0=[d.f0.safe,d.f0.tail].flatten:=by unfold Kp.db;rw[if_pos (gT h rfl)];simp[Kp.bL,Kp.gn]
theorem V0{d:Kp.Dk}(h:Kp.b6 d=true):Kp.db d 1=[d.f1.safe,d.f1.tail].flatten:=by unfold Kp.db;rw[if_pos (gT h rfl)];simp[Kp.bL,Kp.gn]
theorem qU{f:Kp.Fi}(h:Kp.okF f=true):f.safe.length+f.tail.length≤65536:=of_decide_eq_true h
theorem lV{d:Kp.Dk}(h:Kp.b6 d=true):d.f0.safe.length+d.f0.tail.length≤65536∧d.f1.safe.length+d.f1.tail.length≤65536:=by
 unfold Kp.b6 at h
 rw[Bool.and_eq_true] at h
 exact⟨qU h.1,qU h.2⟩
theorem CM{d:Kp.Dk}{n:Int}{b:List UInt8}(h:Kp.b6 d=false∨Kp.fk n=false):Kp.eJ d n b=(d,1):=by unfold Kp.eJ;rw[if_neg (sP h)]
theorem abm{d:Kp.Dk}{b:List UInt8}(h:Kp.b6 d=true)(hl:65536<d.f0.safe.length+d.f0.tail.length+b.length):Kp.eJ d 0 b=(d,5):=by
 unfold Kp.eJ;rw[if_pos (gT h rfl),if_neg]
 simp only[Kp.bL,Kp.gn,if_pos,List.length_append];omega
theorem abn{d:Kp.Dk}{b:List UInt8}(h:Kp.b6 d=true)(hl:65536<d.f1.safe.length+d.f1.tail.length+b.length):Kp.eJ d 1 b=(d,5):=by
 unfold Kp.eJ;rw[if_pos (gT h rfl),if_neg]
 show ¬(Kp.bL d.f1).length+b.length≤65536
 simp only[Kp.bL,List.length_append];omega
theorem w9{d:Kp.Dk}{b:List UInt8}(h:Kp.b6 d=true)(hl:d.f0.safe.length+d.f0.tail.length+b.length≤65536):Kp.eJ d 0 b=(⟨⟨d.f0.safe,[d.f0.tail,b].flatten⟩,d.f1⟩,0):=by
 unfold Kp.eJ;rw[if_pos (gT h rfl),if_pos]
 ·simp[Kp.eD,Kp.gn]
 ·simp only[Kp.bL,Kp.gn,if_pos,List.length_append];omega
theorem abl{d:Kp.Dk}{b:List UInt8}(h:Kp.b6 d=true)(hl:d.f1.safe.length+d.f1.tail.length+b.length≤65536):Kp.eJ d 1 b=(⟨d.f0,⟨d.f1.safe,[d.f1.tail,b].flatten⟩⟩,0):=by
 unfold Kp.eJ;rw[if_pos (gT h rfl),if_pos]
 ·simp[Kp.eD,Kp.gn]
 ·show(Kp.bL d.f1).length+b.length≤65536
  simp only[Kp.bL,List.length_append];omega
theorem Ce{d:Kp.Dk}{n:Int}(h:Kp.b6 d=false∨Kp.fk n=false):Kp.iB d n=(d,1):=by unfold Kp.iB;rw[if_neg (sP h)]
theorem Cd{d:Kp.Dk}(h:Kp.b6 d=true):Kp.iB d 0=(⟨⟨Kp.db d 0,[]⟩,d.f1⟩,0):=by
 unfold Kp.iB Kp.db;rw[if_pos (gT h rfl),if_pos (gT h rfl)];simp[Kp.eD]
theorem Yh{d:Kp.Dk}(h:Kp.b6 d=true):Kp.iB d 1=(⟨d.f0,⟨Kp.db d 1,[]⟩⟩,0):=by
 unfold Kp.iB Kp.db;rw[if_pos (gT h rfl),if_pos (gT h rfl)];simp[Kp.eD]
theorem pK{d:Kp.Dk}{n:Int}(h:Kp.b6 d=true)(h2:Kp.fk n=true):Kp.db d n=Kp.bL (Kp.gn d n):=by unfold Kp.db;rw[if_pos (gT h h2)]
theorem vW{d:Kp.Dk}{n:Int}(h:ef d):(Kp.db d n).length≤400000:=by
 obtain⟨s0,s1,s2,s3⟩:=h
 unfold Kp.db Kp.gn
 split
 ·split<;>simp only[Kp.bL,List.length_append]<;>omega
 ·simp
theorem yg{d:Kp.Dk}{n k:Int}(h:Kp.b6 d=false∨Kp.fk n=false):Kp.gO d n k=(d,1):=by unfold Kp.gO;rw[if_neg (fun e=>sP h e.1)]
theorem KK{d:Kp.Dk}{n k:Int}(h:k<0∨((Kp.db d n).length:Int)<k):Kp.gO d n k=(d,1):=by
 unfold Kp.gO;rw[if_neg]
 rintro⟨e,e1,e2⟩
 unfold Kp.db at h
 rw[if_pos e] at h
 omega
theorem uB{d:Kp.Dk}{k:Int}(h:Kp.b6 d=true)(h1:0≤k)(h2:k≤((Kp.db d 0).length:Int)):Kp.gO d 0 k=(⟨⟨(Kp.db d 0).take k.toNat,[]⟩,d.f1⟩,0):=by
 rw[pK h rfl] at h2 ⊢
 unfold Kp.gO;rw[if_pos ⟨gT h rfl,h1,h2⟩];rfl
theorem yf{d:Kp.Dk}{k:Int}(h:Kp.b6 d=true)(h1:0≤k)(h2:k≤((Kp.db d 1).length:Int)):Kp.gO d 1 k=(⟨d.f0,⟨(Kp.db d 1).take k.toNat,[]⟩⟩,0):=by
 rw[pK h rfl] at h2 ⊢
 unfold Kp.gO;rw[if_pos ⟨gT h rfl,h1,h2⟩];rfl
theorem uF(d:Kp.Dk)(n:Int)(hd:ef d):ai E 99 [cE d,i64 n] (fun r t=>r=aU (Kp.db d n)∧t=[]):=by
 have hd0:=hd
 obtain⟨s0,s1,s2,s3⟩:=hd
 refine ai.aC (n:=26) (rs:=[.tmp 4]) Tryz.func99 rfl Tryz.ntmps99 rfl ?_
 repeat'(first
 |refine aa.ah fun K hK=>?_
 |(
  refine aa.here 3 14 13 rfl ?_
  obtain rfl|rfl:=sC (n:=n) af
  refine aa.bA [0,1,2,3,4,5,6,7,8,9,10,11,12] [] ae ae rfl ?_;simp only[go_sem])
 |(refine aa.region ?_;simp only[go_sem])
 |(refine aa.here 3 14 13 rfl ?_;refine aa.bA [0,1,2,3,4,5,6,7,8,9,10,11,12] [] ae ae rfl ?_;simp only[go_sem])
 |(refine hK _ ?_;clear hK K)
 |refine aa.cond rfl (fun c=>?_) (fun c=>?_)<;>first|exact Bool.noConfusion c|(try simp only[dD] at c)
 |refine aa.skip ?_
 |(refine ak.one (mn d hd0) ae rfl ?_;simp only[go_sem])
 |(refine ak.one (sr d n) ae rfl ?_;simp only[go_sem])
 |(refine ak.one (o5 [d.f0.safe,d.f0.tail] (by simp;omega) aB) ae rfl ?_;simp only[go_sem])
 |(refine ak.one (o5 [d.f1.safe,d.f1.tail] (by simp;omega) aB) ae rfl ?_;simp only[go_sem])
 |(refine aP.split (fun h=>?_) (fun h=>?_)<;>simp only[h,go_sem]<;>(try simp only[dD] at h))
 |(
  refine aa.ret ?_
  refine aM.is ?_;simp only[go_sem,aI,aH,aG,aK,aJ,aL]<;>(first|(rw[vX (.inl af)];trivial)|(rw[vX (.inr af)];trivial)|(rw[Bm af];done)|(rw[V0 af];done))))
theorem yG(d:Kp.Dk)(n:Int)(b:List UInt8)(hd:ef d)(hb:b.length≤200000):ai E 94 [cE d,i64 n,aU b] (fun r t=>r= .ax [cE (Kp.eJ d n b).1,i64 (Kp.eJ d n b).2]∧t=[]):=by
 have hd0:=hd
 obtain⟨s0,s1,s2,s3⟩:=hd
 refine ai.aC (n:=51) (rs:=[.cell 6 49,.tmp 7]) Tryz.func94 rfl Tryz.ntmps94 rfl ?_
 repeat'(first
 |refine aa.ah fun K hK=>?_
 |(
  refine aa.here 4 21 4 rfl ?_
  have hq:=lV (d:=d) af
  have hw0:IntKind.i64.wrap (65536-(d.f0.safe.length:Int))=65536-(d.f0.safe.length:Int):=aN ab ab
  have hx0:IntKind.i64.wrap (65536-(d.f0.safe.length:Int)-(d.f0.tail.length:Int))=65536-(d.f0.safe.length:Int)-(d.f0.tail.length:Int):=aN ab ab
  have hw1:IntKind.i64.wrap (65536-(d.f1.safe.length:Int))=65536-(d.f1.safe.length:Int):=aN ab ab
  have hx1:IntKind.i64.wrap (65536-(d.f1.safe.length:Int)-(d.f1.tail.length:Int))=65536-(d.f1.safe.length:Int)-(d.f1.tail.length:Int):=aN ab ab
  obtain rfl|rfl:=sC (n:=n) af
  refine aa.region ?_;simp only[go_sem])
 |(
  refine aa.here 5 24 15 rfl ?_
  refine aa.bA [0,1,2,3,4,5,6,7,8,9,10,11,12,13,14] [] ae ae rfl ?_;simp only[go_sem,hw0,hw1,hx0,hx1])
 |(refine aa.region ?_;simp only[go_sem])
 |(refine hK _ ?_;clear hK K)
 |refine aa.cond rfl (fun c=>?_) (fun c=>?_)<;>first|exact Bool.noConfusion c|(try simp only[dD] at c)
 |refine aa.skip ?_
 |(refine ak.one (sw d hd0) ae rfl ?_;simp only[go_sem])
 |(refine ak.one (mn d hd0) ae rfl ?_;simp only[go_sem])
 |(refine ak.one (sr d n) ae rfl ?_;simp only[go_sem])
 |(refine ak.one (o5 [d.f0.tail,b] (by simp;omega) aB) ae rfl ?_;simp only[go_sem])
 |(refine ak.one (o5 [d.f1.tail,b] (by simp;omega) aB) ae rfl ?_;simp only[go_sem])
 |(refine aP.split (fun h=>?_) (fun h=>?_)<;>simp only[h,go_sem]<;>(try simp only[dD] at h))
 |((with_reducible refine And.intro ?_ ?_);(focus((simp;done)));(try simp only[hb,go_sem]))
 |(
  refine aa.ret ?_
  refine aM.is ?_;simp only[go_sem,aI,aH,aG,aK,aJ,aL]<;>(first|(rw[CM (.inl af)];exact⟨⟨rfl,rfl,rfl,rfl⟩,rfl⟩)|(rw[CM (.inr af)];exact⟨⟨rfl,rfl,rfl,rfl⟩,rfl⟩)|(rw[abm af ab];exact⟨⟨rfl,rfl,rfl,rfl⟩,rfl⟩)|(rw[abn af ab];exact⟨⟨rfl,rfl,rfl,rfl⟩,rfl⟩)|(rw[w9 af ab];exact⟨⟨rfl,rfl,rfl,rfl⟩,rfl⟩)|(rw[abl af ab];exact⟨⟨rfl,rfl,rfl,rfl⟩,rfl⟩))))
end Go.Proofs.YthoonfpkfdjhiaaGreatDoor
end
section
namespace Go.az
open Go Go.RowKit
section
variable{H:Type}{enc:TypeId×Value→H}{P:Program}{t:TypeId}
end
end Go.az
end
section
namespace Go.Bk
open Go Go.az
def ed(o:Od):Od:=⟨o.id,o.acc,o.sym,o.aD,o.au,o.aE,0,true⟩
def fW(v:Vn)(id:Bs):Bool:=hasB v.book.aq id||hasB v.aF id
def iw(v:Vn)(o:Od):Vn:=⟨v.book,v.aF++[o],v.last,v.bm⟩
def gd(g:Gt)(n:Int)(o:Od):Gt×Int×Int:=
 if bP g n=true∧bU (ed o)=true then(match g.an[n.toNat]? with
  |some v=>if fW v o.id then(g,0,7) else if fA g v (ed o)≠0 then(g,fA g v (ed o),0) else(dV g n.toNat (iw v (ed o)),0,0)
  |none=>(g,0,1)) else(g,0,1)
theorem AK{g:Gt}{n:Int}{o:Od}(h:bP g n=false):gd g n o=(g,0,1):=if_neg (by simp[h])
theorem AJ{g:Gt}{n:Int}{o:Od}(h:bU (ed o)=false):gd g n o=(g,0,1):=if_neg (by simp[h])
theorem s5{g:Gt}{k:Nat}{o:Od}{v:Vn}(h:bP g (k:Int)=true)(hm:bU (ed o)=true)(hx:g.an[k]?=some v):
 gd g (k:Int) o=if fW v o.id then(g,0,7) else if fA g v (ed o)≠0 then(g,fA g v (ed o),0) else(dV g k (iw v (ed o)),0,0):=by
 unfold gd;rw[if_pos ⟨h,hm⟩,Int.toNat_natCast,hx]
theorem UY{g:Gt}{k:Nat}{o:Od}{v:Vn}(h:bP g (k:Int)=true)(hm:bU (ed o)=true)(hx:g.an[k]?=some v)(hk:fW v o.id=true):gd g (k:Int) o=(g,0,7):=by rw[s5 h hm hx,if_pos hk]
theorem UZ{g:Gt}{k:Nat}{o:Od}{v:Vn}(h:bP g (k:Int)=true)(hm:bU (ed o)=true)(hx:g.an[k]?=some v)(hk:fW v o.id=false)(hw:¬fA g v (ed o)=0):gd g (k:Int) o=(g,fA g v (ed o),0):=by
 rw[s5 h hm hx,if_neg (by simp[hk]),if_pos hw]
theorem UW{g:Gt}{k:Nat}{o:Od}{v:Vn}(h:bP g (k:Int)=true)(hm:bU (ed o)=true)(hx:g.an[k]?=some v)(hk:fW v o.id=false)(hw:fA g v (ed o)=0):gd g (k:Int) o=(dV g k (iw v (ed o)),0,0):=by
 rw[s5 h hm hx,if_neg (by simp[hk]),if_neg (by simp[hw])]
def iP(o:Od)(id:Bs)(au aE:Int):Od:=⟨id,o.acc,o.sym,o.aD,au,aE,o.done,o.bW⟩
def mF(o:Od)(id:Bs)(au aE:Int):Od:=⟨id,o.acc,o.sym,o.aD,au-o.done,aE,0,o.bW⟩
def fD(g:Gt)(n:Int)(old id:Bs)(au aE:Int):Gt×Int×Int:=
 if bP g n=true then(match g.an[n.toNat]? with
  |some v=>if(findF v.book.aq old).2=false∨(findF v.book.aq old).1.bW=false then(g,0,6)
   else if bU (iP (findF v.book.aq old).1 id au aE)=false then(g,0,1)
   else if fW v id then(g,0,7)
   else if fA g v (mF (findF v.book.aq old).1 id au aE)≠0 then(g,fA g v (mF (findF v.book.aq old).1 id au aE),0)
   else(dV g n.toNat (iw v (iP (findF v.book.aq old).1 id au aE)),0,0)
  |none=>(g,0,1)) else(g,0,1)
theorem xN{g:Gt}{n:Int}{old id:Bs}{q p:Int}(h:bP g n=false):fD g n old id q p=(g,0,1):=if_neg (by simp[h])
theorem o0{g:Gt}{k:Nat}{old id:Bs}{q p:Int}{v:Vn}(h:bP g (k:Int)=true)(hx:g.an[k]?=some v):fD g (k:Int) old id q p =
 if(findF v.book.aq old).2=false∨(findF v.book.aq old).1.bW=false then(g,0,6)
  else if bU (iP (findF v.book.aq old).1 id q p)=false then(g,0,1)
  else if fW v id then(g,0,7)
  else if fA g v (mF (findF v.book.aq old).1 id q p)≠0 then(g,fA g v (mF (findF v.book.aq old).1 id q p),0)
  else(dV g k (iw v (iP (findF v.book.aq old).1 id q p)),0,0):=by
 unfold fD;rw[if_pos h,Int.toNat_natCast,hx]
def kr(x:Ex)(o:Od):Bool:=decide (o.id=x.ord)&&decide (o.acc=x.acc)&&decide (o.sym=x.sym)&&decide (o.aD=x.aD)&&decide (o.au=x.au)&&decide (o.aE=x.aE)&&(decide (o.done=0)||decide (x.kind=4))
def gF(l:List Od)(x:Ex):Option Nat:=l.findIdx? (kr x)
def jU(x:Ex):Bool:=decide (x.kind=1)||decide (x.kind=4)
def nq(v:Vn)(x:Ex):Vn:=⟨⟨v.book.aq,v.book.av,v.book.ids++[x.id],v.book.clock,2⟩,v.aF,v.last,v.bm⟩
def lZ(g:Gt)(v:Vn)(x:Ex)(b:Bk)(k:Int):Vn×Int:=
 if jU x then(match gF v.aF x with
  |none=>(nq v x,3)
  |some p=>if k=1 then(⟨b,v.aF.eraseIdx p,g.now,v.bm⟩,1) else(⟨b,v.aF,v.last,v.bm⟩,k))
 else if k=1 then(⟨b,v.aF,g.now,v.bm⟩,1) else(⟨b,v.aF,v.last,v.bm⟩,k)
def dL(g:Gt)(n:Int)(x:Ex):Gt×Int×Int:=
 if bP g n=true then(match g.an[n.toNat]? with
  |some v=>
   if(bI v.book x).2=2∨(bI v.book x).2=4 then(g,(bI v.book x).2,0)
   else if(bI v.book x).2=1∨(bI v.book x).2=3 then(dV g n.toNat (lZ g v x (bI v.book x).1 (bI v.book x).2).1,(lZ g v x (bI v.book x).1 (bI v.book x).2).2,0)
   else(g,0,1)
  |none=>(g,0,1)) else(g,0,1)
theorem Co{g:Gt}{n:Int}{x:Ex}(h:bP g n=false):dL g n x=(g,0,1):=if_neg (by simp[h])
theorem oG{g:Gt}{k:Nat}{x:Ex}{v:Vn}(h:bP g (k:Int)=true)(hx:g.an[k]?=some v):dL g (k:Int) x =
 if(bI v.book x).2=2∨(bI v.book x).2=4 then(g,(bI v.book x).2,0)
  else if(bI v.book x).2=1∨(bI v.book x).2=3 then(dV g k (lZ g v x (bI v.book x).1 (bI v.book x).2).1,(lZ g v x (bI v.book x).1 (bI v.book x).2).2,0)
  else(g,0,1):=by
 unfold dL;rw[if_pos h,Int.toNat_natCast,hx]
def zeroV:Vn:=⟨⟨[],[],[],0,0⟩,[],0,false⟩
def dS(n p:Int):Gt×Int:=if n<1∨4<n∨eU p=false then(⟨[],[],false,0,0⟩,1) else(⟨List.replicate n.toNat zeroV,[],false,0,p⟩,0)
theorem vz{n p:Int}(h:n<1∨4<n∨eU p=false):dS n p=(⟨[],[],false,0,0⟩,1):=if_pos h
theorem sS{n p:Int}(h1:1≤n)(h2:n≤4)(h:eU p=true):dS n p=(⟨List.replicate n.toNat zeroV,[],false,0,p⟩,0):=if_neg (by rw[h];simp;omega)
def cn(l:List Lm)(x:Lm):Nat:=(l.takeWhile fun y=>decide (cmpL y x<0)).length
def ft(l:List Lm)(x:Lm):List Lm×Int:=
 if cX l=true∧fX x=true then
  (match l[cn l x]? with
  |some y=>if cmpL y x=0 then(l.set (cn l x) x,0) else if l.length=32 then(l,5) else(l.take (cn l x)++x::l.drop (cn l x),0)
  |none=>if l.length=32 then(l,5) else(l.take (cn l x)++x::l.drop (cn l x),0))
 else(l,1)
def iN(g:Gt)(x:Lm):Gt×Int:=if cb g=true then(if(ft g.aY x).2=0 then(⟨g.an,(ft g.aY x).1,g.kill,g.now,g.pat⟩,0) else(g,(ft g.aY x).2)) else(g,1)
theorem BP{l:List Lm}{x:Lm}(h:¬(cX l=true∧fX x=true)):ft l x=(l,1):=if_neg h
theorem SJ{g:Gt}{x:Lm}(h:cb g=false):iN g x=(g,1):=if_neg (by simp[h])
end Go.Bk
end
section
set_option linter.unusedSectionVars false
namespace Go.Stb
set_option linter.unusedSectionVars false
open Go.Sort
variable{α:Type}[Inhabited α]
section
variable(lt:α→α→Bool)
end
section
variable{lt:α→α→Bool}
theorem XV{a b:Nat}{d d':Array α}(hs:SortedIn lt a b d)(h:∀i,a≤i→i<b→d'[i]! =d[i]!):SortedIn lt a b d':=fun i j hi hij hj=>by
 rw[h i hi ab,h j ab hj]
 exact hs i j hi hij hj
inductive Ch(lt:α→α→Bool)(s n:Nat)(d:Array α):Nat→Prop
 |done {a:Nat} (h:n≤a):Ch lt s n d a
 |step {a:Nat} (h:SortedIn lt a (min (a+s) n) d) (hn:Ch lt s n d (a+s)):Ch lt s n d a
theorem Ch.congr{s n a:Nat}{d d':Array α}(h:Ch lt s n d a)(e:∀i,a≤i→d'[i]! =d[i]!):Ch lt s n d' a:=by
 induction h with
 |done h=>exact .done h
 |step h _ ih=>exact .step (XV h fun i x y=>e i x) (ih fun i hi=>e i ab)
theorem Ch.head{s n a:Nat}{d:Array α}(h:Ch lt s n d a):SortedIn lt a (min (a+s) n) d:=by
 cases h with
 |done h=>exact fun i j x y z=>by omega
 |step h _=>exact h
theorem Ch.tail{s n a:Nat}{d:Array α}(h:Ch lt s n d a):Ch lt s n d (a+s):=by
 cases h with
 |done h=>exact .done ab
 |step _ h=>exact h
end
end Go.Stb
end
section
namespace Go.Bk
open Go Go.az
abbrev Nm:=Bs×Bs
def lN(a b:Nm):Bool:=decide (o3 a b<0)
instance:Inhabited Po:=⟨⟨[],[],0,0,false⟩⟩
theorem xV{a b:Bs}:ly a b<0↔a<b:=by
 unfold ly;split
 ·simp[*]
 ·split<;>simp_all
theorem qp{a b:Bs}:ly a b=0↔a=b:=by
 unfold ly;split
 ·rename_i h
  constructor
  ·intro e;exact absurd e aj
  ·rintro rfl;exact absurd h (List.lt_irrefl a)
 ·split<;>simp_all
theorem vv{a b:Nm}:lN a b=true↔a.1<b.1∨a.1=b.1∧a.2<b.2:=by
 unfold lN o3
 rw[decide_eq_true_eq]
 split
 ·rename_i h
  rw[xV]
  constructor
  ·exact .inl
  ·rintro(h2|⟨h2,_⟩)
   ·exact h2
   ·exact absurd (qp.2 h2) h
 ·rename_i h
  have h:a.1=b.1:=qp.1 (by simpa using h)
  rw[xV,h]
  constructor
  ·intro h2;exact .inr ⟨rfl,h2⟩
  ·rintro(h2|⟨_,h2⟩)
   ·exact absurd h2 (List.lt_irrefl _)
   ·exact h2
theorem S7{a b c:Nm}(h1:lN a b=true)(h2:lN b c=true):lN a c=true:=by
 rw[vv] at *
 rcases h1 with h1|⟨e1,h1⟩<;>rcases h2 with h2|⟨e2,h2⟩
 ·exact .inl (List.lt_trans h1 h2)
 ·exact .inl (e2 ▸ h1)
 ·exact .inl (e1 ▸ h2)
 ·exact .inr ⟨e1.trans e2,List.lt_trans h1 h2⟩
theorem xK(a b:Bs):a<b∨a=b∨b<a:=by
 rcases Classical.em (a<b) with h|h
 ·exact .inl h
 ·rcases Classical.em (b<a) with h2|h2
  ·exact .inr (.inr h2)
  ·exact .inr (.inl (List.le_antisymm (List.not_lt.1 h2) (List.not_lt.1 h)))
theorem S8(a b:Nm):lN a b=true∨a=b∨lN b a=true:=by
 rw[vv,vv]
 rcases xK a.1 b.1 with h|h|h
 ·exact .inl (.inl h)
 ·rcases xK a.2 b.2 with h2|h2|h2
  ·exact .inl (.inr ⟨h,h2⟩)
  ·exact .inr (.inl (Prod.ext h h2))
  ·exact .inr (.inr (.inr ⟨h.symm,h2⟩))
 ·exact .inr (.inr (.inl h))
theorem Kk{a b:Nm}:o3 a b=0↔a=b:=by
 unfold o3
 split
 ·rename_i h
  constructor
  ·intro e;exact absurd e h
  ·rintro rfl;exact absurd (qp.2 rfl) h
 ·rename_i h
  have h:a.1=b.1:=qp.1 (by simpa using h)
  rw[qp]
  exact⟨fun e=>Prod.ext h e,fun e=>by rw[e]⟩
theorem sN{x y:Lm}:cmpL x y<0↔lN (x.acc,x.sym) (y.acc,y.sym)=true:=by unfold cmpL lN;rw[decide_eq_true_eq]
theorem cmpL_eq{x y:Lm}:cmpL x y=0↔(x.acc,x.sym)=(y.acc,y.sym):=Kk
theorem vu{x y z:Lm}(h1:cmpL x y<0)(h2:cmpL y z<0):cmpL x z<0:=sN.2 (S7 (sN.1 h1) (sN.1 h2))
theorem S6{x y:Lm}(h:¬cmpL y x<0)(h0:¬cmpL y x=0):cmpL x y<0:=by
 rw[sN] at h ⊢
 rcases S8 (y.acc,y.sym) (x.acc,x.sym) with h1|h1|h1
 ·exact absurd h1 h
 ·exact absurd (cmpL_eq.2 h1) h0
 ·exact h1
theorem Kj{x y:Lm}(h:cmpL y x=0)(z:Lm):cmpL z x=cmpL z y∧cmpL x z=cmpL y z:=by
 have e:=cmpL_eq.1 h
 simp only[Prod.mk.injEq] at e
 unfold cmpL;rw[e.1,e.2];exact⟨rfl,rfl⟩
theorem mS{l:List Lm}:cX l=true↔l.length≤32∧(∀x∈l,fX x=true)∧∀k x y,l[k]?=some x→l[k+1]?=some y→cmpL x y<0:=by
 unfold cX
 rw[Bool.and_eq_true,decide_eq_true_eq,List.all_eq_true]
 constructor
 ·rintro⟨h1,h2⟩
  refine⟨h1,fun x hx=>?_,fun k x y hx hy=>?_⟩
  ·obtain⟨k,hk⟩:=List.mem_iff_getElem?.1 hx
   have:=h2 k (List.mem_range.2 (cp hk))
   rw[od hk,Bool.and_eq_true] at this
   exact this.1
  ·have:=h2 (k+1) (List.mem_range.2 (cp hy))
   rw[od hy,Bool.and_eq_true] at this
   have e:(k+1==0)=false:=by simp
   rw[e,Nat.add_sub_cancel,hx] at this
   simpa using this.2
 ·rintro⟨h1,h2,h3⟩
  refine⟨h1,fun k hk=>?_⟩
  have hk:=List.mem_range.1 hk
  have hx:l[k]?=some l[k]:=List.getElem?_eq_getElem hk
  rw[od hx,h2 _ (List.getElem_mem hk),Bool.true_and]
  cases k with
  |zero=>rfl
  |succ k=>
   have hy:l[k]?=some l[k]:=List.getElem?_eq_getElem ab
   rw[Nat.add_sub_cancel,hy]
   have:=h3 k _ _ hy hx
   simp[this]
theorem B1{l:List Lm}(h:cX l=true):∀(j i:Nat) (x y:Lm),i<j→l[i]?=some x→l[j]?=some y→cmpL x y<0:=by
 intro j
 induction j with
 |zero=>intro i x y h1;omega
 |succ j ih=>
  intro i x y h1 hx hy
  have h3:=(mS.1 h).2.2
  rcases Nat.lt_or_ge i j with h2|h2
  ·have hz:l[j]?=some (l[j]'(by have:=cp hy;omega)):=List.getElem?_eq_getElem _
   exact vu (ih i x _ h2 hx hz) (h3 j _ _ hz hy)
  ·obtain rfl:i=j:=by omega
   exact h3 i x y hx hy
theorem Vw{l:List Lm}{x:Lm}{i:Nat}(hi:i≤l.length)(h1:∀k y,k<i→l[k]?=some y→cmpL y x<0)(h2:∀y,l[i]?=some y→¬cmpL y x<0):cn l x=i:=by
 unfold cn
 induction l generalizing i with
 |nil=>simp only[List.length_nil] at hi;simp;omega
 |cons z l ih=>
  cases i with
  |zero=>
   have:=h2 z rfl
   rw[List.takeWhile_cons_of_neg (by simpa using this)];rfl
  |succ i=>
   have:=h1 0 z ab rfl
   rw[List.takeWhile_cons_of_pos (by simpa using this),List.length_cons,ih (i:=i) (by simpa using hi) (fun k y hk hy=>h1 (k+1) y ab hy) (fun y hy=>h2 y hy)]
theorem vR(l:List Lm)(x:Lm):cn l x≤l.length∧(∀k y,k<cn l x→l[k]?=some y→cmpL y x<0)∧∀y,l[cn l x]?=some y→¬cmpL y x<0:=by
 unfold cn
 induction l with
 |nil=>simp
 |cons z l ih=>
  by_cases hz:cmpL z x<0
  ·rw[List.takeWhile_cons_of_pos (by simpa using hz),List.length_cons]
   refine⟨by simpa using ih.1,fun k y hk hy=>?_,fun y hy=>ih.2.2 y (by simpa using hy)⟩
   cases k with
   |zero=>simp only[List.getElem?_cons_zero,Option.some.injEq] at hy;subst hy;exact hz
   |succ k=>exact ih.2.1 k y ab (by simpa using hy)
  ·rw[List.takeWhile_cons_of_neg (by simpa using hz)]
   refine⟨by simp,fun k y hk=>by simp at hk,fun y hy=>?_⟩
   simp only[List.length_nil,List.getElem?_cons_zero,Option.some.injEq] at hy;subst hy;exact hz
def iM(l:List Lm)(x:Lm):Bool:=match l[cn l x]? with
 |some y=>decide (cmpL y x=0)
 |none=>false
theorem ph{l:List Lm}{x y:Lm}(h:l[cn l x]?=some y):iM l x=decide (cmpL y x=0):=by unfold iM;rw[h]
theorem zm{l:List Lm}{x:Lm}(h:l.length≤cn l x):iM l x=false:=by unfold iM;rw[List.getElem?_eq_none h]
theorem qG{l:List Lm}{x:Lm}(h:iM l x=true):cn l x<l.length:=by
 rcases Nat.lt_or_ge (cn l x) l.length with h'|h'
 ·exact h'
 ·rw[zm h'] at h;exact absurd h aB
theorem BS{l:List Lm}{x:Lm}(h:cX l=true)(hm:fX x=true)(hh:iM l x=true):ft l x=(l.set (cn l x) x,0):=by
 unfold ft;rw[if_pos ⟨h,hm⟩]
 have hy:l[cn l x]?=some (l[cn l x]'(qG hh)):=List.getElem?_eq_getElem _
 rw[ph hy] at hh
 rw[hy];dsimp only;rw[if_pos (by simpa using hh)]
theorem BQ{l:List Lm}{x:Lm}(h:cX l=true)(hm:fX x=true)(hh:iM l x=false)(h32:l.length=32):ft l x=(l,5):=by
 unfold ft;rw[if_pos ⟨h,hm⟩]
 cases hy:l[cn l x]? with
 |none=>dsimp only;rw[if_pos h32]
 |some y=>
  rw[ph hy] at hh
  dsimp only;rw[if_neg (by simpa using hh),if_pos h32]
theorem BR{l:List Lm}{x:Lm}(h:cX l=true)(hm:fX x=true)(hh:iM l x=false)(h32:¬l.length=32):ft l x=(l.take (cn l x)++x::l.drop (cn l x),0):=by
 unfold ft;rw[if_pos ⟨h,hm⟩]
 cases hy:l[cn l x]? with
 |none=>dsimp only;rw[if_neg h32]
 |some y=>
  rw[ph hy] at hh
  dsimp only;rw[if_neg (by simpa using hh),if_neg h32]
theorem VC{l:List Lm}{x:Lm}(h:cX l=true)(hm:fX x=true)(hh:iM l x=true):cX (l.set (cn l x) x)=true:=by
 have hlt:=qG hh
 have hy:l[cn l x]?=some l[cn l x]:=List.getElem?_eq_getElem hlt
 rw[ph hy] at hh
 have he:=Kj (y:=l[cn l x]) (x:=x) (by simpa using hh)
 obtain⟨h1,h2,h3⟩:=mS.1 h
 have get:∀(k:Nat) (z:Lm),(l.set (cn l x) x)[k]?=some z→∃z':Lm,l[k]?=some z'∧∀w:Lm,cmpL w z=cmpL w z'∧cmpL z w=cmpL z' w:=by
  intro k z hz
  rw[List.getElem?_set] at hz
  split at hz
  ·rename_i hk;subst hk
   first|(rw[if_pos hlt] at hz;cases hz;exact⟨_,hy,he⟩)|(cases hz;exact⟨_,hy,he⟩)
  ·exact⟨z,hz,fun w=>⟨rfl,rfl⟩⟩
 refine mS.2 ⟨by simpa using h1,fun z hz=>?_,fun k a b ha hb=>?_⟩
 ·rcases List.mem_or_eq_of_mem_set hz with hz|rfl
  ·exact h2 z hz
  ·exact hm
 ·obtain⟨a',e1,e2⟩:=get _ _ ha
  obtain⟨b',e3,e4⟩:=get _ _ hb
  rw[(e2 b).2,(e4 a').1]
  exact h3 k a' b' e1 e3
theorem Qf{l:List Lm}{x:Lm}(h:cX l=true)(hm:fX x=true)(hh:iM l x=false)(h32:¬l.length=32):cX (l.take (cn l x)++x::l.drop (cn l x))=true:=by
 obtain⟨h1,h2,h3⟩:=mS.1 h
 obtain⟨p1,p2,p3⟩:=vR l x
 have htl:(l.take (cn l x)).length=cn l x:=by rw[List.length_take];omega
 refine mS.2 ⟨by simp only[List.length_append,List.length_cons,List.length_take,List.length_drop];omega,fun z hz=>?_,fun k a b ha hb=>?_⟩
 ·rcases List.mem_append.1 hz with hz|hz
  ·exact h2 z (List.mem_of_mem_take hz)
  ·rcases List.mem_cons.1 hz with rfl|hz
   ·exact hm
   ·exact h2 z (List.mem_of_mem_drop hz)
 ·rcases Nat.lt_trichotomy (k+1) (cn l x) with hk|hk|hk
  ·rw[List.getElem?_append_left ab,List.getElem?_take,if_pos ab] at ha
   rw[List.getElem?_append_left ab,List.getElem?_take,if_pos ab] at hb
   exact h3 k a b ha hb
  ·rw[List.getElem?_append_left ab,List.getElem?_take,if_pos ab] at ha
   rw[List.getElem?_append_right ab,htl,hk,Nat.sub_self] at hb
   simp only[List.getElem?_cons_zero,Option.some.injEq] at hb;subst hb
   exact p2 k a ab ha
  ·rw[List.getElem?_append_right ab,htl,show k+1-cn l x=(k-cn l x)+1 by omega,List.getElem?_cons_succ,List.getElem?_drop] at hb
   rcases Nat.lt_or_ge (cn l x) k with hk2|hk2
   ·rw[List.getElem?_append_right ab,htl,show k-cn l x=(k-cn l x-1)+1 by omega,List.getElem?_cons_succ,List.getElem?_drop] at ha
    refine h3 (k-1) a b ?_ ?_
    ·rw[←ha];congr 1;omega
    ·rw[←hb];congr 1;omega
   ·obtain rfl:k=cn l x:=by omega
    rw[List.getElem?_append_right ab,htl,Nat.sub_self] at ha
    simp only[List.getElem?_cons_zero,Option.some.injEq] at ha;subst ha
    have hb:l[cn l x]?=some b:=by rw[←hb];congr 1;omega
    rw[ph hb] at hh
    exact S6 (p3 b hb) (by simpa using hh)
theorem Xk{l:List Lm}{x:Lm}(h:cX l=true):cX (ft l x).1=true:=by
 by_cases hm:fX x=true
 ·cases hh:iM l x with
  |true=>rw[BS h hm hh];exact VC h hm hh
  |false=>
   by_cases h32:l.length=32
   ·rw[BQ h hm hh h32];exact h
   ·rw[BR h hm hh h32];exact Qf h hm hh h32
 ·rw[BP fun e=>hm e.2];exact h
theorem SL{g:Gt}{x:Lm}(h:cb g=true):cb (iN g x).1=true:=by
 unfold iN;rw[if_pos h]
 split
 ·obtain⟨h1,h2,h3,h4,h5,h6⟩:=pO h
  exact ri h1 h2 (Xk h3) h4 h5 (Nat.le_refl _) (fun k v _ hv=>h6 v (List.mem_of_getElem? hv))
 ·exact h
theorem nJ{l:List Od}{id:Bs}:hasB l id=decide (id∈l.map (·.id)):=by
 unfold hasB
 rw[Bool.eq_iff_iff,List.any_eq_true,decide_eq_true_eq,List.mem_map]
 simp only[decide_eq_true_eq]
theorem p6{v:Vn}{now:Int}(h1:cA v.book=true)(h2:bF v.aF=true)(h3:v.book.aq.length+v.aF.length≤64)(h4:0≤v.last)(h5:v.last≤now)(h6:∀o∈v.aF,o.bW=true∧hasB v.book.aq o.id=false):dK v now=true:=
 BA h1 h2 h3 h4 h5 (Nat.le_refl _) (fun k o _ ho=>h6 o (List.mem_of_getElem? ho))
theorem rz{g:Gt}{k:Nat}{v':Vn}(h:cb g=true)(hv:dK v' g.now=true):cb (dV g k v')=true:=by
 obtain⟨h1,h2,h3,h4,h5,h6⟩:=pO h
 refine ri (g:=dV g k v') (i:=g.an.length) (by simpa[dV] using h1) (by simpa[dV] using h2) h3 h4 h5 (by simp[dV]) (fun j w _ hw=>?_)
 rcases List.mem_or_eq_of_mem_set (List.mem_of_getElem? hw) with hw|rfl
 ·exact h6 w hw
 ·exact hv
theorem Q8{g:Gt}{on:Bool}(h:cb g=true):cb (lL g on).1=true:=by rw[zH h];exact h
theorem Y7{g:Gt}{now:Int}(h:cb g=true):cb (fw g now).1=true:=by
 unfold fw
 split
 ·rename_i hc
  obtain⟨h1,h2,h3,h4,h5,h6⟩:=pO h
  have h4':eU now=true:=by
   simp only[eU,Bool.and_eq_true,decide_eq_true_eq] at h4 ⊢
   exact⟨by omega,hc.2.2⟩
  refine ri h1 h2 h3 h4' h5 (Nat.le_refl _) (fun k v _ hv=>?_)
  obtain⟨f1,f2,f3,f4,f5,f6⟩:=mT (h6 v (List.mem_of_getElem? hv))
  exact p6 f1 f2 f3 f4 (Int.le_trans f5 hc.2.1) f6
 ·exact h
theorem O6{g:Gt}{n:Int}{b:Bool}(h:cb g=true):cb (jQ g n b).1=true:=by
 cases hi:bP g n with
 |false=>rw[y6 hi];exact h
 |true=>
  obtain⟨k,v,rfl,hv⟩:=kx hi
  rw[y7 hi hv]
  obtain⟨f1,f2,f3,f4,f5,f6⟩:=mT (pk hi hv)
  exact rz h (p6 f1 f2 f3 f4 f5 f6)
theorem WA{g:Gt}{n:Int}(h:cb g=true):cb (iU g n).1=true:=by
 cases hi:bP g n with
 |false=>rw[Bu hi];exact h
 |true=>
  obtain⟨k,v,rfl,hv⟩:=kx hi
  by_cases hb:v.book.bad=0
  ·rw[Bv hi hv hb];exact h
  ·rw[Bw hi hv hb]
   obtain⟨f1,f2,f3,f4,f5,f6⟩:=mT (pk hi hv)
   obtain⟨⟨a1,a2,a3,a4,a5,a6,a7⟩,b2,b3,b4⟩:=iV.1 f1
   refine rz h (p6 (iV.2 ⟨⟨a1,a2,a3,a4,a5,by show(0:Int)≤0;decide,by show(0:Int)≤6;decide⟩,b2,b3,b4⟩) f2 f3 f4 f5 f6)
theorem CH{g:Gt}{v:Vn}{o:Od}(h:fA g v o=0):g.kill=false∧j6 v g.now g.pat=0∧tH g.aY o (rA g o.acc o.sym)=0:=by
 unfold fA at h
 have hs:=B8 v g.now g.pat
 cases hk:g.kill with
 |true=>rw[hk] at h;simp at h
 |false=>
  rw[hk] at h
  simp only[Bool.false_eq_true,if_false] at h
  split at h
  ·omega
  ·rename_i h2;exact⟨rfl,by simpa using h2,h⟩
theorem B9{v:Vn}{now pat:Int}(h:j6 v now pat=0):v.book.aq.length+v.aF.length<64∧v.book.ids.length<256:=by
 unfold j6 kG at h
 split at h
 ·omega
 split at h
 ·omega
 ·rename_i h2
  simp only[Bool.or_eq_true,decide_eq_true_eq,not_or] at h2
  omega
theorem BO{g:Gt}{v:Vn}{o:Od}(hv:dK v g.now=true)(hm:bU o=true)(ho:o.bW=true)(hk:fW v o.id=false)(hr:v.book.aq.length+v.aF.length<64):dK (iw v o) g.now=true:=by
 obtain⟨f1,f2,f3,f4,f5,f6⟩:=mT hv
 unfold fW at hk
 rw[Bool.or_eq_false_iff] at hk
 have hp:cT v.aF o.id=none:=by
  have h2:=hk.2
  rw[nJ,decide_eq_false_iff_not] at h2
  have:(cT v.aF o.id).isNone=true:=by rw[qZ];simpa using h2
  simpa using this
 refine p6 f1 (wc f2 hm hp ab) (by show v.book.aq.length+(v.aF++[o]).length≤64;simp;omega) f4 f5 (fun p hp=>?_)
 rcases List.mem_append.1 hp with hp|hp
 ·exact f6 p hp
 ·rw[List.mem_singleton.1 hp];exact⟨ho,hk.1⟩
theorem UX{g:Gt}{n:Int}{o:Od}(h:cb g=true):cb (gd g n o).1=true:=by
 cases hi:bP g n with
 |false=>rw[AK hi];exact h
 |true=>
  obtain⟨k,v,rfl,hv⟩:=kx hi
  cases hm:bU (ed o) with
  |false=>rw[AJ hm];exact h
  |true=>
   rw[s5 hi hm hv]
   split
   ·exact h
   ·rename_i hk
    split
    ·exact h
    ·rename_i hw
     have hw:=CH (by simpa using hw)
     exact rz h (BO (pk hi hv) hm rfl (by show fW v o.id=false;simpa using hk) (B9 hw.2.1).1)
theorem FQ{g:Gt}{n:Int}{old id:Bs}{q p:Int}(h:cb g=true):cb (fD g n old id q p).1=true:=by
 cases hi:bP g n with
 |false=>rw[xN hi];exact h
 |true=>
  obtain⟨k,v,rfl,hv⟩:=kx hi
  rw[o0 hi hv]
  split
  ·exact h
  ·rename_i hf
   split
   ·exact h
   ·rename_i hm
    split
    ·exact h
    ·rename_i hk
     split
     ·exact h
     ·rename_i hw
      have hw:=CH (by simpa using hw)
      simp only[not_or,Bool.not_eq_false] at hf
      exact rz h (BO (pk hi hv) (by simpa using hm) hf.2 (by show fW v id=false;simpa using hk) (B9 hw.2.1).1)
theorem TC{l:List Od}{o:Od}(h:(dT l o).2=0):(dT l o).1.map (·.id)=l.map (·.id)++[o.id]:=by
 unfold dT at h ⊢
 split at h<;>rename_i h1
 ·simp at h
 split at h<;>rename_i h2
 ·simp at h
 split at h<;>rename_i h3
 ·simp at h
 rw[if_neg h1,if_neg h2,if_neg h3];simp
theorem Kc{l:List Od}{id:Bs}(h:(ej l id).2=0):(ej l id).1.map (·.id)=l.map (·.id):=by
 unfold ej at h ⊢
 split at h
 ·simp at h
 ·rename_i h1
  rw[if_neg h1]
  split at h
  ·simp at h
  ·rename_i n hn
   obtain⟨o,h2,h3,h4,h5⟩:=pH hn
   simp only[hn,h5]
   exact nR h2 rfl
theorem Oc{l:List Od}{id:Bs}{q p:Int}(h:(dB l id q p).2=0):(dB l id q p).1.map (·.id)=l.map (·.id):=by
 unfold dB at h ⊢
 split at h
 ·simp at h
 ·rename_i h1
  rw[if_neg h1]
  split at h
  ·simp at h
  ·rename_i n hn
   obtain⟨o,h2,h3,h4,h5⟩:=pH hn
   simp only[hn,h5] at h ⊢
   split at h<;>rename_i h6
   ·simp at h
   split at h<;>rename_i h7
   ·simp at h
   rw[if_neg h6,if_neg h7]
   exact nR h2 rfl
theorem FJ{l:List Od}{a b:Bs}{q p:Int}(h:(dA l a b q p).2=0):(dA l a b q p).1.map (·.id)=l.map (·.id)++[b]:=by
 unfold dA at h ⊢
 split at h
 ·simp at h
 ·rename_i h1
  rw[if_neg h1]
  split at h
  ·simp at h
  ·rename_i n hn
   obtain⟨o,h2,h3,h4,h5⟩:=pH hn
   simp only[hn,h5] at h ⊢
   split at h<;>rename_i h6
   ·simp at h
   split at h<;>rename_i h7
   ·simp at h
   split at h<;>rename_i h8
   ·simp at h
   rw[if_neg h6,if_neg h7,if_neg h8]
   show(l.set n _++_).map _=_
   rw[List.map_append,nR (f:=fun o:Od=>o.id) h2 jk]
   rfl
theorem Ly{b c:Bk}{x:Ex}(h:jI b x c):c.aq.map (·.id)=b.aq.map (·.id)∨(jU x=true∧c.aq.map (·.id)=b.aq.map (·.id)++[x.ord]):=by
 cases h with
 |opens hk h=>exact .inr ⟨by simp[jU,hk],TC h⟩
 |uq=>exact .inl rfl
 |ux=>exact .inl rfl
 |av hk h=>exact .inl (Oc h)
 |changes hk h=>exact .inr ⟨by simp[jU,hk],FJ h⟩
 |uw hk h=>exact .inl (Kc h)
theorem CN{b:Bk}{x:Ex}(hr:cA b=true)(h:(bI b x).2=3):dh x=true∧b.bad=0∧b.ids.length<256∧x.id∉b.ids∧(bI b x).1.aq=b.aq:=by
 cases hx:dh x with
 |false=>unfold bI at h;rw[hx] at h;simp at h
 |true=>
  have e:bI b x=cP b x:=by unfold bI;simp[hr,hx]
  rw[e] at h ⊢
  by_cases h1:b.bad≠0∨256≤b.ids.length
  ·unfold cP at h;rw[if_pos h1] at h;simp at h
  ·simp only[not_or,ne_eq,Decidable.not_not] at h1
   by_cases hm:x.id∈b.ids
   ·unfold cP at h;rw[if_neg ab,if_pos (pg.2 hm)] at h;simp at h
   ·rcases Cj h1.1 ab hm with⟨e',h4,_⟩|⟨c,h4,h5,h6⟩
    ·exact⟨rfl,h1.1,by omega,hm,by rw[h4]⟩
    ·rw[h4] at h;simp at h
theorem Kn{b:Bk}{x:Ex}(hr:cA b=true)(h:(bI b x).2=1):b.ids.length<256:=by
 obtain⟨hx,hb,hm,_⟩:=uU hr h
 have e:bI b x=cP b x:=by unfold bI;simp[hr,hx]
 rw[e] at h
 rcases Nat.lt_or_ge b.ids.length 256 with h'|h'
 ·exact h'
 ·unfold cP at h;rw[if_pos (.inr h')] at h;simp at h
theorem EG{v:Vn}{x:Ex}{now:Int}(hv:dK v now=true)(hm:x.id∉v.book.ids)(hl:v.book.ids.length<256):dK (nq v x) now=true:=by
 obtain⟨f1,f2,f3,f4,f5,f6⟩:=mT hv
 obtain⟨⟨a1,a2,a3,a4,a5,a6,a7⟩,b2,b3,b4⟩:=iV.1 f1
 refine p6 (iV.2 ⟨⟨a1,a2,by show(v.book.ids++[x.id]).length≤256;simp;omega,a4,a5,by show(0:Int)≤2;decide,by show(2:Int)≤6;decide⟩,?_,?_,b4⟩) f2 f3 f4 f5 f6
 ·show(v.book.ids++[x.id]).Nodup
  rw[List.nodup_append]
  refine⟨b2,by simp,fun a ha c hc e=>?_⟩
  simp only[List.mem_singleton] at hc
  subst hc;subst e;exact hm ha
 ·exact fun f hf=>uN (h:=b3 f hf) (Int.le_refl _) (fun s hs=>List.mem_append_left _ hs)
theorem Bz{l:List Od}{p:Nat}(h:bF l=true):bF (l.eraseIdx p)=true:=by
 rw[lU] at h ⊢
 have hs:(l.eraseIdx p).Sublist l:=List.eraseIdx_sublist ..
 exact⟨Nat.le_trans hs.length_le h.1,fun o ho=>h.2.1 o (hs.subset ho),(hs.map _).nodup h.2.2⟩
theorem Zn{g:Gt}{n:Int}{x:Ex}(h:cb g=true):cb (dL g n x).1=true:=by
 cases hi:bP g n with
 |false=>rw[Co hi];exact h
 |true=>
  obtain⟨k,v,rfl,hv⟩:=kx hi
  have hrv:=pk hi hv
  obtain⟨f1,f2,f3,f4,f5,f6⟩:=mT hrv
  have hnow:=pO h
  have hn:0≤g.now:=by have:=hnow.2.2.2.1;simp only[eU,Bool.and_eq_true,decide_eq_true_eq] at this;exact this.1
  rw[oG hi hv]
  split
  ·exact h
  rename_i h24
  split
  rotate_left
  ·exact h
  rename_i h13
  refine rz h ?_
  have hb:=Km (x:=x) f1
  have ids:∀(s:List Od) (l2:Int),bF s=true→0≤l2→l2≤g.now→(bI v.book x).1.aq.length+s.length≤64→(∀o∈s,o.bW=true∧hasB (bI v.book x).1.aq o.id=false)→dK ⟨(bI v.book x).1,s,l2,v.bm⟩ g.now=true:=
   fun s l2 e1 e2 e3 e4 e5=>p6 hb e1 e4 e2 e3 e5
  have same:(bI v.book x).1.aq.map (·.id)=v.book.aq.map (·.id)→∀l2:Int,0≤l2→l2≤g.now→dK ⟨(bI v.book x).1,v.aF,l2,v.bm⟩ g.now=true:=fun e l2 e2 e3=>by
   have hlen:(bI v.book x).1.aq.length=v.book.aq.length:=by have:=congrArg List.length e;simpa using this
   refine ids _ _ f2 e2 e3 ab (fun o ho=>⟨(f6 o ho).1,?_⟩)
   rw[nJ,e,←nJ];exact(f6 o ho).2
  have hk3:(bI v.book x).2=3→(bI v.book x).1.aq.map (·.id)=v.book.aq.map (·.id):=fun h3=>by rw[(CN f1 h3).2.2.2.2]
  have hnew:x.id∉v.book.ids∧v.book.ids.length<256:=by
   rcases h13 with h1|h3
   ·exact⟨(uU f1 h1).2.2.1,Kn f1 h1⟩
   ·have:=CN f1 h3;exact⟨this.2.2.2.1,this.2.2.1⟩
  have h1ids:(bI v.book x).2=1→(bI v.book x).1.aq.map (·.id)=v.book.aq.map (·.id)∨(jU x=true∧(bI v.book x).1.aq.map (·.id)=v.book.aq.map (·.id)++[x.ord]):=fun h1=>by
   obtain⟨_,_,_,c,e,_,hd⟩:=uU f1 h1
   have:=Ly hd
   rw[e];exact this
  unfold lZ
  split
  ·rename_i ho
   split
   ·exact EG hrv hnew.1 hnew.2
   ·rename_i p hp
    split
    ·rename_i h1
     rcases h1ids h1 with e|⟨_,e⟩
     ·
      have hs:(v.aF.eraseIdx p).Sublist v.aF:=List.eraseIdx_sublist ..
      have hlen:(bI v.book x).1.aq.length=v.book.aq.length:=by have:=congrArg List.length e;simpa using this
      have:=hs.length_le
      refine ids _ _ (Bz f2) hn (Int.le_refl _) ab (fun o ho=>⟨(f6 o (hs.subset ho)).1,?_⟩)
      rw[nJ,e,←nJ];exact(f6 o (hs.subset ho)).2
     ·have hs:(v.aF.eraseIdx p).Sublist v.aF:=List.eraseIdx_sublist ..
      have hlen:(bI v.book x).1.aq.length=v.book.aq.length+1:=by have:=congrArg List.length e;simpa using this
      obtain⟨hpl,hfit,_⟩:=List.findIdx?_eq_some_iff_getElem.1 hp
      have hpid:v.aF[p].id=x.ord:=by
       simp only[kr,Bool.and_eq_true,decide_eq_true_eq] at hfit
       exact hfit.1.1.1.1.1.1
      have hel:(v.aF.eraseIdx p).length=v.aF.length-1:=List.length_eraseIdx_of_lt hpl
      refine ids _ _ (Bz f2) hn (Int.le_refl _) ab (fun o ho=>⟨(f6 o (hs.subset ho)).1,?_⟩)
      rw[nJ,e,decide_eq_false_iff_not,List.mem_append,not_or]
      refine⟨by have:=(f6 o (hs.subset ho)).2;rw[nJ] at this;simpa using this,fun hx=>?_⟩
      simp only[List.mem_singleton] at hx
      have hnd:=(lU.1 f2).2.2
      obtain⟨q,hq⟩:=List.mem_iff_getElem?.1 ho
      rw[List.getElem?_eraseIdx] at hq
      have hpg:(v.aF.map (·.id))[p]?=some x.ord:=by rw[List.getElem?_map,List.getElem?_eq_getElem hpl];simp[hpid]
      have key:∀j,v.aF[j]?=some o→j=p:=fun j hj=>by
       have hjg:(v.aF.map (·.id))[j]?=some x.ord:=by rw[List.getElem?_map,hj];simp[hx]
       have hjl:=cp hjg
       exact(List.getElem?_inj hjl hnd).1 (hjg.trans hpg.symm)
      split at hq
      ·have:=key _ hq;omega
      ·have:=key _ hq;omega
    ·rename_i h1
     exact same (hk3 ab) _ f4 f5
  ·rename_i ho
   split
   ·rename_i h1
    rcases h1ids h1 with e|⟨e0,_⟩
    ·exact same e _ hn (Int.le_refl _)
    ·exact absurd e0 ho
   ·rename_i h1
    exact same (hk3 ab) _ f4 f5
theorem abw{p:Int}(h:eU p=true):dK zeroV 0=true:=by decide
theorem TK{n p:Int}(h1:1≤n)(h2:n≤4)(h:eU p=true):cb (dS n p).1=true:=by
 rw[sS h1 h2 h]
 refine ri (by show 1≤(List.replicate n.toNat zeroV).length;rw[List.length_replicate];omega) (by show(List.replicate n.toNat zeroV).length≤4;rw[List.length_replicate];omega) (by show cX []=true;decide) (by show eU 0=true;decide) h (Nat.le_refl _) (fun k v _ hv=>?_)
 have:=List.mem_of_getElem? hv
 simp only[List.mem_replicate] at this
 rw[this.2]
 exact abw h
theorem kQ{g:Gt}(h:cb g=true):dm g:=by
 obtain⟨h1,h2,h3,h4,h5,h6⟩:=pO h
 refine⟨by omega,by have:=(mS.1 h3).1;omega,fun v hv=>?_⟩
 obtain⟨f1,f2,f3,f4,f5,f6⟩:=mT (h6 v hv)
 obtain⟨⟨a1,a2,a3,_⟩,_⟩:=iV.1 f1
 exact⟨by omega,by omega,by omega,by omega⟩
section
variable{g:Gt}{k:Nat}{o:Od}{v:Vn}
end
end Go.Bk
end
