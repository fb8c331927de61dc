/- (T5, K5, K6) -/
import Derived.Test.YtajeeghgiilhiaaGreatKwP
import Derived.Test.YtajeeghgiilhiaaGreatKwJ
import Derived.Test.YtajeeghgiilhiaaGreatKwQ
set_option linter.unusedVariables false
set_option linter.unusedSimpArgs false
set_option maxHeartbeats 16000000
set_option maxRecDepth 8000
section
namespace Go.Proofs.YtajeeghgiilhiaaGreat
open Go Go.Abs Go.RowKit Go.Bk
theorem AX:∀(k:Nat) (l:List Po),(fW k l).length≤k
 |0,_=>by simp[fW]
 |k+1,[]=>by simp[fW]
 |k+1,p::l=>by rw[fW,List.length_cons];have:=AX k (l.dropWhile fun q=>decide (aI q=aI p));omega
theorem O6(ls:List (List Po)):(dv ls).1.length≤ls.flatten.length:=by
 unfold dv;split
 ·exact AX _ _
 ·simp
theorem Pb(ls:List (List Po))(hl1:ls.length≤1000000)(hl2:ls.flatten.length≤1000000):ae E 61 [tJ ls] (fun r t=>r= .ax [eb (dv ls).1,i64 (dv ls).2]∧t=[]):=by
 refine ae.av (n:=55) (rs:=[.tmp 2,.tmp 3]) Tryz.func61 rfl Tryz.ntmps61 rfl ?_
 repeat'(first
 |refine aa.ab fun K hK=>?_
 |(
  refine aa.here 4 13 3 rfl ?_
  obtain⟨l,hx⟩:∃l,ls[i]?=some l:=⟨_,List.getElem?_eq_getElem (by omega)⟩
  have hml:=pI hx
  have hfn:=nD (ls:=ls) (i:=i+1)
  rw[oh hx,List.length_append] at hfn
  refine aa.region ?_;simp only[go_sem])
 |(
  refine aa.here 8 21 2 rfl ?_
  refine aa.ik [1] (by decide) rfl rfl ?_
  simp only[go_sem,Rx,List.length_map]
  refine aa.region ?_;simp only[go_sem])
 |(
  refine aa.here 10 7 1 rfl ?_
  refine aa.lr 4 0 5 ls.flatten.length (ls.flatten.length+m) ((kE ls.flatten).map bD) (spare 5 m) rfl rfl (by rw[List.length_map,rE]) (JZ _) ?_
  simp only[go_sem]
  refine aa.region ?_;simp only[go_sem])
 |(
  refine aa.here 12 8 1 rfl ?_
  obtain⟨p,r,hq⟩:∃p r,q=p::r:=by
   match q,(show 0<q.length by omega) with
   |p::r,_=>exact⟨p,r,rfl⟩
  have hq0:q[0]?=some p:=by rw[hq];rfl
  refine aa.region ?_;simp only[go_sem])
 |(
  refine aa.here 15 44 8 rfl ?_
  have hn:n=1+(r.takeWhile (cL p)).length:=by
   first|exact VS j1 j2 (hq ▸ hb) (by assumption)|exact UE j2 (by rw[←hq];omega)
  have ht:q.take n=p::r.takeWhile (cL p):=by rw[hn,hq];exact Qc
  have hd:q.drop n=r.dropWhile (cL p):=by rw[hn,hq];exact P9
  have hnl:n≤q.length:=by omega
  refine aa.region ?_;simp only[go_sem])
 |(
  refine aa.here 7 18 4 rfl ?_
  refine aa.bq ?_
  refine aj.at 4 2 rfl ?_
  simp only[go_sem]
  refine aj.wy (es:=(ls.take i).flatten.map bD) (xs:=l.map bD) (m0:=m) xW xz (by simp only[List.length_map];rfl) rfl rfl (by simp only[List.length_map];omega) (by simp only[List.length_map];omega) ?_
  intro mm
  simp only[go_sem]
  refine aj.of ?_
  simp only[go_sem])
 |(
  refine aa.here 9 22 2 rfl ?_
  have hti:ls.take i=ls:=List.take_of_length_le (by omega)
  have hall:ls.all ck=true:=uL (by omega) h2
  rw[hti]
  refine aa.bq ?_
  refine aj.at 2 1 rfl ?_
  simp only[go_sem]
  (repeat(refine⟨⟨_,rfl⟩,?_⟩))
  refine U4 (id:=0) (m:=m) (N:=ls.flatten.length) (d:=ls.flatten.toArray) (by rfl) (by rfl) (by rfl) (by(rfl)) (bm.cons (fun es h=>by cases h;exact mb ls.flatten.toArray m) bm.nil) (by omega) (by simp) ?_
  simp only[go_sem]
  refine aj.of ?_
  simp only[go_sem])
 |(refine aa.region ?_;simp only[go_sem])
 |(refine aa.here 13 27 15 rfl ?_;refine aa.bc [0,1,2,3,4,5,6,7,8,9,10,11,12,13,14] [] (by kernel_rfl) (by kernel_rfl) rfl ?_;simp only[go_sem])
 |(refine hK _ ?_;clear hK K)
 |refine aa.block ?_
 |refine aa.cond rfl (fun c=>?_) (fun c=>?_)<;>first|exact Bool.noConfusion c|(try simp only[dD] at c)
 |refine aa.skip ?_
 |(refine aa.exit ?_;simp only[go_sem])
 |(refine ah.one (LX l (by have:=pI hx;omega)) (by kernel_rfl) rfl ?_;simp only[go_sem])
 |(refine ah.one (rL p b) (by kernel_rfl) rfl ?_;simp only[go_sem])
 |(rw[ht];refine ah.one (GF (p::r.takeWhile (cL p)) p (by have:=Aw (p:=p) (r:=r);rw[←hq] at this;simp only[List.length_cons];omega) rfl) (by kernel_rfl) rfl ?_;simp only[go_sem])
 |(refine aH.split (fun h=>?_) (fun h=>?_)<;>simp only[h,go_sem]<;>(try simp only[dD] at h))
 |(refine aG.bA (by assumption) ?_;(try simp only[go_sem]))
 |((first|refine aG.nth ?_ (fun b hb=>?_)|with_reducible refine And.intro ?_ ?_);(focus(first|omega|(simp;done)));(try simp only[hb,go_sem]))
 |(
  refine aa.here 3 12 1 rfl ?_
  refine aa.sS 4 5 rfl ?_
  simp only[go_sem]
  refine aa.b6 (ι:=Nat×Nat) [2,3,6,12,13,14,15,16,17,18,19,20,21] (fun⟨i,m⟩=>[(11,i64 i),(4,.mu 0 5 0 (ls.take i).flatten.length ((ls.take i).flatten.length+m))]) (fun⟨i,m⟩=>[some ((ls.take i).flatten.map bD++spare 5 m)]) (fun⟨i,m⟩=>[]) (fun⟨i,m⟩=>i≤ls.length∧(ls.take i).all ck=true) (fun⟨i,m⟩=>ls.length-i) ((0,0)) ?_ ?_ ?_
  ·(try simp only[go_sem]);(repeat'(first|refine And.intro ?_ ?_|exact .inr rfl|exact .inr ⟨rfl,aM rfl⟩));done
  ·exact⟨by omega,rfl⟩
  rintro⟨i,m⟩ ⟨h1,h2⟩
  simp only[go_sem]
  have hfl:=nD (ls:=ls) (i:=i))
 |(
  refine aa.here 11 24 3 rfl ?_
  refine aa.fb 7 5 rfl ?_
  simp only[go_sem]
  refine aa.b6 (ι:=List Po×List Po) [8,24,25,26,27,28,29,30,31,32,33,34,35,36,37,38,39,40,41,42,43,44,45,46,47,48,49,50,51,52,53] (fun⟨q,out⟩=>[(4,eb q),(7,.sl (some 0) 5 (out.map bD))]) (fun⟨q,out⟩=>[none]) (fun⟨q,out⟩=>[out.length]) (fun⟨q,out⟩=>q.length+out.length≤ls.flatten.length∧out++kV q=kV (kE ls.flatten)) (fun⟨q,out⟩=>q.length) ((kE ls.flatten,[])) ?_ ?_ ?_
  ·(try simp only[go_sem]);(repeat'(first|fail));done
  ·exact⟨by rw[rE];simp,rfl⟩
  rintro⟨q,out⟩ ⟨k1,k2⟩
  simp only[go_sem])
 |(
  refine aa.here 13 27 15 rfl ?_
  have hrl:=Aw (p:=p) (r:=r)
  rw[←hq] at hrl
  refine aa.cr (ι:=Nat) [27,28,29,30,31,32,33,34,35,36,37,38,39,40,41,42,43] (fun(n:Nat)=>[(8,i64 n)]) (fun(n:Nat)=>1≤n∧n≤1+(r.takeWhile (cL p)).length) (fun(n:Nat)=>q.length-n) (1) ?_ ?_ ?_
  ·(try simp only[go_sem]);(repeat'(first|fail));done
  ·exact⟨by omega,by omega⟩
  rintro n ⟨j1,j2⟩
  simp only[go_sem])
 |(
  refine⟨(i+1,mm),?_,⟨by show i+1≤ls.length;omega,yB hx h2 (by assumption)⟩,by show ls.length-(i+1)<ls.length-i;omega⟩
  (try simp only[go_sem]);(try rw[aq (by omega) (by omega)]);rw[oh hx,List.length_append];(repeat'(first|exact .inr ⟨rfl,WN⟩|refine And.intro ?_ ?_|exact .inr rfl));done)
 |(
  refine⟨(r.dropWhile (cL p),out++[dQ (aI p) (p::r.takeWhile (cL p))]),?_,⟨by show(r.dropWhile (cL p)).length+(out++[_]).length≤_;rw[←hd,List.length_drop,List.length_append,List.length_singleton];omega,by show(out++[_])++kV (r.dropWhile (cL p))=_;rw[←k2,hq,TQ];simp⟩,by show(r.dropWhile (cL p)).length<q.length;rw[←hd,List.length_drop];omega⟩
  (try simp only[go_sem]);rw[hd];(try simp only[List.map_append,List.map_cons,List.map_nil,List.length_append,List.length_singleton]);(repeat'(first|refine And.intro ?_ ?_|(simp;done)));done)
 |(
  refine⟨n+1,?_,?_,?_⟩
  ·(try simp only[go_sem]);(try rw[aq (by omega) (by omega)]);(repeat'(exact .inr rfl));done
  ·exact⟨by omega,Wt j1 j2 (hq ▸ hb) (by assumption)⟩
  ·(try simp only[]);omega)
 |(
  refine aa.ret ?_
  refine az.is ?_;simp only[go_sem,aB,aE,aF,aA,aC,aD]<;>(first|(rw[vU hx (by assumption)];exact⟨trivial,rfl⟩)|(rw[Ry hall,←k2];simp[kV,fW,show q=[] from List.eq_nil_of_length_eq_zero (by omega)];done)))
 |refine aa.fin (by assumption) ?_)
theorem CG(p:Po):ae E 135 [bD p] (fun r t=>r=bl p.over∧t=[]):=by
 refine ae.av (n:=5) (rs:=[.tmp 2]) Tryz.func135 rfl Tryz.ntmps135 rfl ?_
 repeat'(first
 |refine aa.ab fun K hK=>?_
 |(refine aa.region ?_;simp only[go_sem])
 |(refine hK _ ?_;clear hK K)
 |(
  refine aa.ret ?_
  refine az.is ?_;simp only[go_sem,aB,aE,aF,aA,aC,aD]<;>rfl))
theorem Ro(l:List Po)(hl:l.length≤9223372036854775807):ae E 184 [eb l,.fn 135 []] (fun r t=>r=i64 (fp (fun p:Po=>p.over) l)∧t=[]):=by
 refine ae.av (n:=19) (rs:=[.tmp 4]) Tryz.func184 rfl Tryz.ntmps184 rfl ?_
 repeat'(first
 |refine aa.ab fun K hK=>?_
 |(refine aa.region ?_;simp only[go_sem])
 |(refine hK _ ?_;clear hK K)
 |refine aa.block ?_
 |refine aa.cond rfl (fun c=>?_) (fun c=>?_)<;>(try simp only[dD] at c)
 |refine aa.skip ?_
 |(refine aa.exit ?_;simp only[go_sem])
 |(refine ah.one (CG _) (by kernel_rfl) rfl ?_;simp only[go_sem])
 |((first|refine aG.nth ?_ (fun b hb=>?_)|with_reducible refine And.intro ?_ ?_);(focus(first|omega|(simp;done)));(try simp only[hb,go_sem]))
 |(
  refine aa.here 2 9 1 rfl ?_
  refine aa.cr (ι:=Nat) [4,5,9,10,11,12,13,14,15,16,17,18] (fun(i:Nat)=>[(8,i64 i)]) (fun(i:Nat)=>i≤l.length∧(l.take i).all (fun p:Po=>!p.over)=true) (fun(i:Nat)=>l.length-i) (0) ?_ ?_ ?_
  ·(try simp only[go_sem]);(repeat'(first|fail));done
  ·exact⟨by omega,by simp⟩
  rintro i ⟨h1,h2⟩
  simp only[go_sem])
 |(
  refine⟨i+1,?_,?_,?_⟩
  ·(try simp only[go_sem]);(try rw[aq (by omega) (by omega)]);(repeat'(exact .inr rfl));done
  ·exact⟨by omega,lj hb h2 (by simp_all)⟩
  ·(try simp only[]);omega)
 |(
  refine aa.ret ?_
  refine az.is ?_;simp only[go_sem,aB,aE,aF,aA,aC,aD]<;>(first|(rw[uI hb (by simp_all) h2];done)|(rw[tD (by omega) h2];done)))
 |refine aa.fin (by assumption) ?_)
theorem UY(l:List Po)(hl:l.length≤9223372036854775807):ae E 134 [eb l,.fn 135 []] (fun r t=>r=bl (decide (0≤fp (fun p:Po=>p.over) l))∧t=[]):=by
 refine ae.av (n:=9) (rs:=[.tmp 4]) Tryz.func134 rfl Tryz.ntmps134 rfl ?_
 repeat'(first
 |refine aa.ab fun K hK=>?_
 |(refine aa.region ?_;simp only[go_sem])
 |(refine hK _ ?_;clear hK K)
 |(refine ah.one (Ro l hl) (by kernel_rfl) rfl ?_;simp only[go_sem])
 |(
  refine aa.ret ?_
  refine az.is ?_;simp only[go_sem,aB,aE,aF,aA,aC,aD]<;>rfl))
theorem WQ(l:List Po)(hl:l.length≤9223372036854775807):ae E 57 [eb l] (fun r t=>r=bl (l.any (·.over))∧t=[]):=by
 refine ae.av (n:=5) (rs:=[.tmp 2]) Tryz.func57 rfl Tryz.ntmps57 rfl ?_
 repeat'(first
 |refine aa.ab fun K hK=>?_
 |(refine aa.region ?_;simp only[go_sem])
 |(refine hK _ ?_;clear hK K)
 |(refine ah.one (UY l hl) (by kernel_rfl) rfl ?_;simp only[go_sem])
 |(
  refine aa.ret ?_
  refine az.is ?_;simp only[go_sem,aB,aE,aF,aA,aC,aD]<;>(exact xE)))
structure GP(n:Nm)(F:List Po)(qs vs:List Int)(ov:Bool):Prop where
 q:qs=(dG n F).map (·.al)
 v:vs=(dG n F).map (·.value)
 o:ov=(dG n F).any (·.over)
section
variable{n:Nm}{F l:List Po}{k:Nat}{x:Po}{qs vs:List Int}{ov:Bool}{ls:List (List Po)}{i:Nat}
theorem GP.zero:GP n [] [] [] false:=⟨rfl,rfl,rfl⟩
theorem GP.lens(h:GP n F qs vs ov):qs.length≤F.length∧vs.length≤F.length:=by
 rw[h.q,h.v,List.length_map,List.length_map]
 exact⟨List.length_filter_le _ _,List.length_filter_le _ _⟩
theorem GP.no{a s:Bs}(h:GP (a,s) (F++l.take k) qs vs ov)(hy:l[k]?=some x)(hn:¬(x.acc=a∧x.sym=s)):GP (a,s) (F++l.take (k+1)) qs vs ov:=by
 have e:dG (a,s) (F++l.take (k+1))=dG (a,s) (F++l.take k):=by
  rw[cp hy,←List.append_assoc]
  unfold dG
  rw[List.filter_append,List.filter_cons_of_neg (by simpa[aI] using hn)];simp
 exact⟨by rw[e];exact h.q,by rw[e];exact h.v,by rw[e];exact h.o⟩
theorem GP.yes{a s:Bs}(h:GP (a,s) (F++l.take k) qs vs ov)(hy:l[k]?=some x)(h1:x.acc=a)(h2:x.sym=s){o:Bool}(ho:o=(ov||x.over)):GP (a,s) (F++l.take (k+1)) (qs++[x.al]) (vs++[x.value]) o:=by
 have e:dG (a,s) (F++l.take (k+1))=dG (a,s) (F++l.take k)++[x]:=by
  rw[cp hy,←List.append_assoc]
  unfold dG
  rw[List.filter_append,List.filter_cons_of_pos (by simp[aI,h1,h2])];simp
 refine⟨by rw[e,List.map_append,←h.q];rfl,by rw[e,List.map_append,←h.v];rfl,by rw[e,List.any_append,←h.o,ho];simp⟩
theorem IH{a s:Bs}(h:¬x.acc=a):¬(x.acc=a∧x.sym=s):=fun e=>h e.1
theorem Gi{a s:Bs}(h:¬x.sym=s):¬(x.acc=a∧x.sym=s):=fun e=>h e.2
theorem uz(h:GP n (ls.take i).flatten qs vs ov)(hi:ls.length≤i)(c:ov=true∨(bu qs).2=false∨(bu vs).2=false):dR ls.flatten n=⟨n.1,n.2,0,0,true⟩:=by
 rw[List.take_of_length_le hi] at h
 unfold dR dQ
 rw[←h.q,←h.v,←h.o]
 rcases c with c|c|c
 ·rw[if_pos c]
 ·rw[c];split<;>simp
 ·rw[c];split<;>simp
theorem NP(h:GP n (ls.take i).flatten qs vs ov)(hi:ls.length≤i)(c:ov=false)(c1:(bu qs).2=true)(c2:(bu vs).2=true):dR ls.flatten n=⟨n.1,n.2,(bu qs).1,(bu vs).1,false⟩:=by
 rw[List.take_of_length_le hi] at h
 unfold dR dQ
 rw[←h.q,←h.v,←h.o,if_neg (by simp[c]),if_pos (by rw[c1,c2];rfl)]
theorem Vz{g:Nm→Po}(hy:l[k]?=some x):fI g ((F++l.take (k+1)).map aI)=eS (fI g ((F++l.take k).map aI)) (g (aI x)):=by
 rw[cp hy,←List.append_assoc,List.map_append]
 unfold fI
 rw[List.foldl_append];rfl
end
theorem Q7(ls:List (List Po))(a s:Bs)(hl:ls.length≤1000000)(hfl:ls.flatten.length≤1000000):ae E 73 [tJ ls,str a,str s] (fun r t=>r=bD (dR ls.flatten (a,s))∧t=[]):=by
 refine ae.av (n:=91) (rs:=[.cell 6 49]) Tryz.func73 rfl Tryz.ntmps73 rfl ?_
 repeat'(first
 |refine aa.ab fun K hK=>?_
 |(
  refine aa.here 6 11 1 rfl ?_
  obtain⟨l,hx⟩:∃l,ls[i]?=some l:=⟨_,List.getElem?_eq_getElem (by omega)⟩
  have hll:=pI hx
  refine aa.region ?_;simp only[go_sem])
 |(
  refine aa.here 9 32 9 rfl ?_
  obtain⟨x,hy⟩:∃x,l[k]?=some x:=⟨_,List.getElem?_eq_getElem (by omega)⟩
  refine aa.region ?_;simp only[go_sem])
 |(refine aa.region ?_;simp only[go_sem])
 |(refine hK _ ?_;clear hK K)
 |refine aa.block ?_
 |refine aa.cond rfl (fun c=>?_) (fun c=>?_)<;>first|exact Bool.noConfusion c|(try simp only[dD] at c)
 |refine aa.skip ?_
 |(refine aa.exit ?_;simp only[go_sem])
 |(refine ah.one (pY qs (by omega)) (by kernel_rfl) rfl ?_;simp only[go_sem])
 |(refine ah.one (pY vs (by omega)) (by kernel_rfl) rfl ?_;simp only[go_sem])
 |(refine aH.bY (fun h=>?_) (fun h=>?_)<;>simp only[h,go_sem]<;>(try simp only[dD] at h))
 |(refine aH.split (fun h=>?_) (fun h=>?_)<;>simp only[h,go_sem]<;>(try simp only[dD] at h))
 |(refine aG.bA (by assumption) ?_;(try simp only[go_sem]))
 |((with_reducible refine And.intro ?_ ?_);(focus(first|omega|(simp;done)));(try simp only[hb,go_sem]))
 |(
  refine aa.here 4 17 4 rfl ?_
  refine aa.fb 8 1 rfl ?_
  refine aa.fb 9 1 rfl ?_
  simp only[go_sem]
  refine aa.b6 (ι:=Nat×List Int×List Int×Bool) [11,12,17,18,19,20,21,22,23,24,25,26,27,28,29,30,31,32,33,34,35,36,37,38,39,40,41,42,43,44,45,46,47,48,49,50,51,52,53,54,55,56,57,58,59,60,61,62,63] (fun⟨i,qs,vs,ov⟩=>[(10,i64 i),(8,.sl (some 0) 1 (qs.map i64)),(9,.sl (some 1) 1 (vs.map i64)),(7,bl ov)]) (fun⟨i,qs,vs,ov⟩=>[some [.agg [str [],str [],i64 0,i64 0,bl false]]]) (fun⟨i,qs,vs,ov⟩=>[qs.length,vs.length]) (fun⟨i,qs,vs,ov⟩=>i≤ls.length∧GP (a,s) (ls.take i).flatten qs vs ov) (fun⟨i,qs,vs,ov⟩=>ls.length-i) ((0,[],[],false)) ?_ ?_ ?_
  ·(try simp only[go_sem]);(repeat'(trivial));done
  ·exact⟨by omega,GP.zero⟩
  rintro⟨i,qs,vs,ov⟩ ⟨h1,h2⟩
  simp only[go_sem]
  have hf0:=nD (ls:=ls) (i:=i)
  have hq0:=h2.lens)
 |(
  refine aa.here 7 23 7 rfl ?_
  refine aa.b6 (ι:=Nat×List Int×List Int×Bool) [12,23,24,25,26,27,28,29,30,31,32,33,34,35,36,37,38,39,40,41,42,43,44,45,46,47,48,49,50,51,52,53,54,55,56,57,58,59,60,61,62,63] (fun⟨k,qs2,vs2,ov2⟩=>[(11,i64 k),(8,.sl (some 0) 1 (qs2.map i64)),(9,.sl (some 1) 1 (vs2.map i64)),(7,bl ov2)]) (fun⟨k,qs2,vs2,ov2⟩=>[some [.agg [str [],str [],i64 0,i64 0,bl false]]]) (fun⟨k,qs2,vs2,ov2⟩=>[qs2.length,vs2.length]) (fun⟨k,qs2,vs2,ov2⟩=>k≤l.length∧GP (a,s) ((ls.take i).flatten++l.take k) qs2 vs2 ov2) (fun⟨k,qs2,vs2,ov2⟩=>l.length-k) ((0,qs,vs,ov)) ?_ ?_ ?_
  ·(try simp only[go_sem]);(repeat'(trivial));done
  ·exact⟨by omega,by simpa using h2⟩
  rintro⟨k,qs2,vs2,ov2⟩ ⟨g1,g2⟩
  simp only[go_sem]
  have hq2:=g2.lens
  have hl2:((ls.take i).flatten++l.take k).length≤2000000:=by rw[List.length_append,List.length_take];omega)
 |(
  refine⟨(i+1,qs2,vs2,ov2),?_,⟨by show i+1≤ls.length;omega,by show GP (a,s) (ls.take (i+1)).flatten qs2 vs2 ov2;rw[oh hx];rw[List.take_of_length_le (show l.length≤k by omega)] at g2;exact g2⟩,by show ls.length-(i+1)<ls.length-i;omega⟩
  (try simp only[go_sem]);(try rw[aq (by omega) (by omega)]);(repeat'(first|refine And.intro ?_ ?_|exact .inr rfl|trivial));done)
 |(
  first
  |(refine⟨(k+1,qs2,vs2,ov2),?_,⟨by show k+1≤l.length;omega,by show GP (a,s) ((ls.take i).flatten++l.take (k+1)) qs2 vs2 ov2;exact g2.no hy (by first|exact IH (by assumption)|exact Gi (by assumption)|(intro e;simp_all))⟩,by show l.length-(k+1)<l.length-k;omega⟩
    (try simp only[go_sem]);(try rw[aq (by omega) (by omega)]);(repeat'(first|refine And.intro ?_ ?_|exact .inr rfl|trivial));done)
  |(refine⟨(k+1,qs2++[x.al],vs2++[x.value],true),?_,⟨by show k+1≤l.length;omega,by show GP (a,s) ((ls.take i).flatten++l.take (k+1)) (qs2++[x.al]) (vs2++[x.value]) true;exact g2.yes hy (by assumption) (by assumption) (by rw[‹ov2=true›];rfl)⟩,by show l.length-(k+1)<l.length-k;omega⟩
    (try simp only[go_sem]);(try rw[aq (by omega) (by omega)]);(repeat'(first|refine And.intro ?_ ?_|exact .inr rfl|trivial|(simp;done)));done)
  |(refine⟨(k+1,qs2++[x.al],vs2++[x.value],x.over),?_,⟨by show k+1≤l.length;omega,by show GP (a,s) ((ls.take i).flatten++l.take (k+1)) (qs2++[x.al]) (vs2++[x.value]) x.over;exact g2.yes hy (by assumption) (by assumption) (by rw[‹ov2=false›];rfl)⟩,by show l.length-(k+1)<l.length-k;omega⟩
    (try simp only[go_sem]);(try rw[aq (by omega) (by omega)]);(repeat'(first|refine And.intro ?_ ?_|exact .inr rfl|trivial|(simp;done)));done))
 |(
  refine aa.ret ?_
  refine az.is ?_;simp only[go_sem,aB,aE,aF,aA,aC,aD]<;>(first|(rw[uz h2 (by omega) (.inl (by assumption))];simp;done)|(rw[uz h2 (by omega) (.inr (.inl (by assumption)))];simp;done)|(rw[uz h2 (by omega) (.inr (.inr (by assumption)))];simp;done)|(rw[NP h2 (by omega) (by assumption) (by assumption) (by assumption)];simp;done)))
 |refine aa.fin (by assumption) ?_)
theorem CK(ls:List (List Po))(hl:ls.length≤1000000)(hfl:ls.flatten.length≤1000000):ae E 62 [tJ ls] (fun r t=>r= .ax [eb (dv ls).1,i64 (dv ls).2]∧t=[]):=by
 refine ae.av (n:=56) (rs:=[.tmp 2,.tmp 3]) Tryz.func62 rfl Tryz.ntmps62 rfl ?_
 repeat'(first
 |refine aa.ab fun K hK=>?_
 |(
  refine aa.here 5 14 6 rfl ?_
  obtain⟨l,hx⟩:∃l,ls[j]?=some l:=⟨_,List.getElem?_eq_getElem (by omega)⟩
  have hll:=pI hx
  refine aa.region ?_;simp only[go_sem])
 |(
  refine aa.here 10 7 1 rfl ?_
  obtain⟨l,hz⟩:∃l,ls[i]?=some l:=⟨_,List.getElem?_eq_getElem (by omega)⟩
  have hll:=pI hz
  refine aa.region ?_;simp only[go_sem])
 |(
  refine aa.here 13 35 21 rfl ?_
  obtain⟨x,hy⟩:∃x,l[k]?=some x:=⟨_,List.getElem?_eq_getElem (by omega)⟩
  refine aa.bc [0,1,2,3,4,5,6,7,8,9,10,11,12,13,14,15,16,17,18,19,20] [] (by kernel_rfl) (by kernel_rfl) rfl ?_;simp only[go_sem])
 |(refine aa.region ?_;simp only[go_sem])
 |(refine hK _ ?_;clear hK K)
 |refine aa.block ?_
 |refine aa.cond rfl (fun c=>?_) (fun c=>?_)<;>(try simp only[dD] at c)
 |refine aa.skip ?_
 |(refine aa.exit ?_;simp only[go_sem])
 |(refine ah.one (CA l (by omega)) (by kernel_rfl) rfl ?_;simp only[go_sem])
 |(refine ah.one (Q7 ls x.acc x.sym hl hfl) (by kernel_rfl) rfl ?_;simp only[go_sem])
 |(refine ah.one (Bh (fI (dR ls.flatten) (((ls.take i).flatten++l.take k).map aI)) (dR ls.flatten (x.acc,x.sym)) (by omega)) (by kernel_rfl) rfl ?_;simp only[go_sem])
 |(refine aG.bA (by assumption) ?_;(try simp only[go_sem]))
 |((with_reducible refine And.intro ?_ ?_);(focus((simp;done)));(try simp only[hb,go_sem]))
 |(
  refine aa.here 3 8 4 rfl ?_
  refine aa.cr (ι:=Nat) [2,3,8,9,10,11,12,13,14,15,16,17,18,19] (fun(j:Nat)=>[(5,i64 j)]) (fun(j:Nat)=>j≤ls.length∧(ls.take j).all ck=true) (fun(j:Nat)=>ls.length-j) (0) ?_ ?_ ?_
  ·(try simp only[go_sem]);(repeat'(first|fail));done
  ·exact⟨by omega,rfl⟩
  rintro j ⟨h1,h2⟩
  simp only[go_sem])
 |(
  refine aa.here 8 20 4 rfl ?_
  refine aa.AU 4 5 rfl ?_
  simp only[go_sem]
  refine aa.cr (ι:=Nat) [7,20,21,22,23,24,25,26,27,28,29,30,31,32,33,34,35,36,37,38,39,40,41,42,43,44,45,46,47,48,49,50,51,52,53,54] (fun(i:Nat)=>[(6,i64 i),(4,eb (fI (dR ls.flatten) ((ls.take i).flatten.map aI)))]) (fun(i:Nat)=>i≤ls.length) (fun(i:Nat)=>ls.length-i) (0) ?_ ?_ ?_
  ·(try simp only[go_sem]);(repeat'(exact .inr rfl));done
  ·exact Nat.zero_le _
  rintro i g1
  simp only[go_sem]
  have hall:=uL (by omega) h2
  have hf0:=nD (ls:=ls) (i:=i))
 |(
  refine aa.here 11 26 7 rfl ?_
  refine aa.cr (ι:=Nat) [26,27,28,29,30,31,32,33,34,35,36,37,38,39,40,41,42,43,44,45,46,47,48,49,50,51,52,53,54] (fun(k:Nat)=>[(7,i64 k),(4,eb (fI (dR ls.flatten) (((ls.take i).flatten++l.take k).map aI)))]) (fun(k:Nat)=>k≤l.length) (fun(k:Nat)=>l.length-k) (0) ?_ ?_ ?_
  ·(try simp only[go_sem]);(try rw[List.take_zero,List.append_nil]);(repeat'(first|fail));done
  ·exact Nat.zero_le _
  rintro k f1
  simp only[go_sem]
  have hpl:=A2 (dR ls.flatten) (((ls.take i).flatten++l.take k).map aI)
  have hl2:(((ls.take i).flatten++l.take k).map aI).length≤1000000:=by have:=oh hz;have h9:=nD (ls:=ls) (i:=i+1);rw[this,List.length_append] at h9;rw[List.length_map,List.length_append,List.length_take];omega)
 |(
  refine⟨j+1,?_,?_,?_⟩
  ·(try simp only[go_sem]);(try rw[aq (by omega) (by omega)]);(repeat'(first|refine And.intro ?_ ?_|exact .inr rfl));done
  ·exact⟨by omega,yB hx h2 (by assumption)⟩
  ·(try simp only[]);omega)
 |(
  refine⟨i+1,?_,by show i+1≤ls.length;omega,by show ls.length-(i+1)<ls.length-i;omega⟩
  (try rw[oh hz]);(try rw[List.take_of_length_le (show l.length≤k by omega)]);(try simp only[go_sem]);(try rw[aq (by omega) (by omega)]);(repeat'(exact .inr rfl));done)
 |(
  refine⟨k+1,?_,?_,?_⟩
  ·(try simp only[go_sem]);(try rw[aq (by omega) (by omega)]);(try rw[Vz hy]);(repeat'(first|refine And.intro ?_ ?_|exact .inr rfl));done
  ·omega
  ·(try simp only[]);omega)
 |(
  refine aa.ret ?_
  refine az.is ?_;simp only[go_sem,aB,aE,aF,aA,aC,aD]<;>(first|(rw[vU hx (by assumption)];(exact⟨trivial,rfl⟩))|(have hall:=uL (by omega) h2;rw[List.take_of_length_le (show ls.length≤i by omega),DK hall,qo hall];(exact⟨rfl,rfl⟩))))
 |refine aa.fin (by assumption) ?_)
theorem QS(o:Od)(h:o.bg=true):ae E 139 [aW ⟨o.id,o.acc,o.sym,o.au,o.al,o.aw,o.done,true⟩] (fun r t=>r=bl (bn o)∧t=[]):=by
 have e:(⟨o.id,o.acc,o.sym,o.au,o.al,o.aw,o.done,true⟩:Od)=o:=by cases o;simp_all
 rw[e];exact oi o
def cB(y:Bool)(w:Ws):Int:=if y then w.1 else w.2
theorem IC{o:Od}(h1:o.bg=true)(h2:bn o=true):db o=o.al-o.done:=by unfold db;simp[h1,h2]
theorem Iq{o:Od}(h:bn o=true):0≤o.al∧o.al≤1099511627776∧0≤o.done∧o.done≤o.al:=by
 simp only[bn,bJ,Bool.and_eq_true,decide_eq_true_eq] at h;omega
theorem LD{o:Od}(h1:o.bg=true)(h2:bn o=true):IntKind.i64.wrap (o.al-o.done)=db o:=by
 have hb:=Iq h2
 rw[aq (by omega) (by omega),IC h1 h2]
theorem xi(y:Bool){w:Ws}{n:Int}(h:cZ w n):-n≤cB y w∧cB y w≤n:=by
 unfold cZ at h;unfold cB;cases y<;>simp<;>omega
section
variable{bk:Bk}{acc sym:Bs}{y:Bool}{i:Nat}{f:Dn}{o:Od}{j:Nat}
theorem ry(hb:bk.ai[i]?=some f):cB y (dO bk acc sym (i+1))=cB y (dO bk acc sym i)+cB y (fj (cu bk f) acc sym f):=by
 rw[qF hb];unfold cB;cases y<;>rfl
theorem Qj(h:¬(f.live=true∧f.acc=acc∧f.sym=sym)):cB y (fj (cu bk f) acc sym f)=0:=by
 unfold fj;rw[if_neg h];unfold cB;cases y<;>rfl
theorem Nv(h:f.live=true∧f.acc=acc∧f.sym=sym)(hy:f.au=y):cB y (fj (cu bk f) acc sym f)=f.al:=by
 unfold fj;rw[if_pos h,hy];unfold cB;cases y<;>rfl
theorem Uj(h:f.live=true∧f.acc=acc∧f.sym=sym)(hy:¬f.au=y)(hf:cu bk f=true):cB y (fj (cu bk f) acc sym f)= -f.al:=by
 unfold fj;rw[if_pos h,hf];unfold cB
 cases hb:f.au<;>cases y<;>simp_all
theorem XD(h:f.live=true∧f.acc=acc∧f.sym=sym)(hy:¬f.au=y)(hf:cu bk f=false):cB y (fj (cu bk f) acc sym f)=0:=by
 unfold fj;rw[if_pos h,hf];unfold cB
 cases hb:f.au<;>cases y<;>simp_all
theorem Wg(hi:bk.ai.length≤i):cB y (dO bk acc sym i)=cB y (dV bk acc sym 0):=by
 have e:dO bk acc sym i=dO bk acc sym bk.ai.length:=by unfold dO;rw[List.take_of_length_le hi,List.take_length]
 rw[e];unfold dV cB;cases y<;>simp[cX]
theorem zW(hc:bk.af[j]?=some o):cB y (dV bk acc sym (j+1))=cB y (dV bk acc sym j)+cB y (fx acc sym o):=by
 unfold dV
 rw[cp hc,List.map_append,qA]
 unfold cB;cases y<;>simp[cX]<;>omega
theorem GQ(h:¬(o.acc=acc∧o.sym=sym∧o.au=y)):cB y (fx acc sym o)=0:=by
 unfold fx
 split
 ·rename_i h2
  have h3:¬o.au=y:=fun e=>h ⟨h2.1,h2.2,e⟩
  unfold cB dp
  cases hb:o.au<;>cases y<;>simp_all
 ·unfold cB;cases y<;>rfl
theorem Uy(h1:o.acc=acc)(h2:o.sym=sym)(h3:o.au=y):cB y (fx acc sym o)=db o:=by
 unfold fx;rw[if_pos ⟨h1,h2⟩,h3];unfold cB dp;cases y<;>rfl
theorem Fx(hi:bk.af.length≤j):cB y (dV bk acc sym j)=cB y (lR bk acc sym):=by
 unfold dV dO lR;rw[List.take_of_length_le hi,List.take_length]
end
theorem XQ(o:Od):ae E 140 [aW o] (fun r t=>r=i64 (db o)∧t=[]):=by
 refine ae.av (n:=14) (rs:=[.tmp 2]) Tryz.func140 rfl Tryz.ntmps140 rfl ?_
 repeat'(first
 |refine aa.ab fun K hK=>?_
 |(refine aa.region ?_;simp only[go_sem])
 |(refine hK _ ?_;clear hK K)
 |refine aa.cond rfl (fun c=>?_) (fun c=>?_)<;>first|exact Bool.noConfusion c|(try simp only[dD] at c)
 |refine aa.skip ?_
 |(refine ah.one (QS o (by assumption)) (by kernel_rfl) rfl ?_;simp only[go_sem])
 |(refine aH.split (fun h=>?_) (fun h=>?_)<;>simp only[h,go_sem]<;>(try simp only[dD] at h))
 |(
  refine aa.ret ?_
  refine az.is ?_;simp only[go_sem,aB,aE,aF,aA,aC,aD]<;>(first|(unfold db;simp[*];done)|exact LD (by assumption) (by assumption))))
theorem WG(bk:Bk)(f:Dn)(h1:0≤f.time)(h2:f.time≤bk.clock)(h3:bk.clock≤4611686018427387904):ae E 58 [dn bk,bQ f] (fun r t=>r=bl (cu bk f)∧t=[]):=by
 refine ae.av (n:=21) (rs:=[.tmp 4]) Tryz.func58 rfl Tryz.ntmps58 rfl ?_
 repeat'(first
 |refine aa.ab fun K hK=>?_
 |(refine aa.region ?_;simp only[go_sem])
 |(refine hK _ ?_;clear hK K)
 |(refine aH.split (fun h=>?_) (fun h=>?_)<;>simp only[h,go_sem]<;>(try simp only[dD] at h))
 |(
  refine aa.ret ?_
  refine az.is ?_;simp only[go_sem,aB,aE,aF,aA,aC,aD]<;>(first|(rw[vb h1 h2 h3,aq (by omega) (by omega)];exact decide_eq_decide.2 (by omega))|(exfalso;omega))))
theorem Oa{g:Dn}(bk:Bk)(f:Dn)(h:g.time=f.time)(h1:0≤f.time)(h2:f.time≤bk.clock)(h3:bk.clock≤4611686018427387904):ae E 58 [dn bk,bQ g] (fun r t=>r=bl (cu bk f)∧t=[]):=by
 have e:cu bk f=cu bk g:=by unfold cu;rw[h]
 rw[e];exact WG bk g (by omega) (by omega) h3
theorem A5(bk:Bk)(acc sym:Bs)(y:Bool)(hr:aQ bk=true):ae E 71 [dn bk,str acc,str sym,bl y] (fun r t=>r=i64 (cB y (lR bk acc sym))∧t=[]):=by
 have h256:=se hr
 have hcl:=ud hr
 refine ae.av (n:=89) (rs:=[.tmp 8]) Tryz.func71 rfl Tryz.ntmps71 rfl ?_
 repeat'(first
 |refine aa.ab fun K hK=>?_
 |(
  refine aa.here 5 21 7 rfl ?_
  obtain⟨f,hb⟩:∃f,bk.ai[i]?=some f:=⟨_,List.getElem?_eq_getElem (by omega)⟩
  have hfa:=j8 hr f (List.mem_of_getElem? hb)
  refine aa.region ?_;simp only[go_sem])
 |(
  refine aa.here 14 63 7 rfl ?_
  obtain⟨o,hc⟩:∃o,bk.af[j]?=some o:=⟨_,List.getElem?_eq_getElem (by omega)⟩
  refine aa.region ?_;simp only[go_sem])
 |(refine aa.region ?_;simp only[go_sem])
 |(refine hK _ ?_;clear hK K)
 |refine aa.block ?_
 |refine aa.cond rfl (fun c=>?_) (fun c=>?_)<;>first|exact Bool.noConfusion c|(try simp only[dD] at c)
 |refine aa.skip ?_
 |(refine aa.exit ?_;simp only[go_sem])
 |(refine ah.one (Oa (g:=⟨f.id,f.ord,f.acc,f.sym,f.au,f.al,f.aw,f.time,true⟩) bk f rfl hfa.2.2.1 hfa.2.2.2 hcl.2) (by kernel_rfl) rfl ?_;simp only[go_sem])
 |(refine ah.one (XQ o) (by kernel_rfl) rfl ?_;simp only[go_sem])
 |(refine aH.split (fun h=>?_) (fun h=>?_)<;>simp only[h,go_sem]<;>(try simp only[dD] at h))
 |(refine aG.bA (by assumption) ?_;(try simp only[go_sem]))
 |((with_reducible refine And.intro ?_ ?_);(focus((simp;done)));(try simp only[hb,go_sem]))
 |(
  refine aa.here 3 14 5 rfl ?_
  refine aa.b6 (ι:=Nat×Int) [11,14,15,16,17,18,19,20,21,22,23,24,25,26,27,28,29,30,31,32,33,34,35,36,37,38,39,40,41,42,43,44,45,46,47,48,49,50,51,52,53,54,55] (fun⟨i,n⟩=>[(10,i64 i),(9,i64 n)]) (fun⟨i,n⟩=>[some [.agg [aR bk.af,bZ bk.ai,.sl none 1 (bk.ids.map str),i64 bk.clock,i64 bk.bad]]]) (fun⟨i,n⟩=>[]) (fun⟨i,n⟩=>i≤bk.ai.length∧n=cB y (dO bk acc sym i)) (fun⟨i,n⟩=>bk.ai.length-i) ((0,0)) ?_ ?_ ?_
  ·(try simp only[go_sem]);(repeat'(exact .inr (aM rfl)));done
  ·exact⟨Nat.zero_le _,by cases y<;>rfl⟩
  rintro⟨i,n⟩ ⟨h1,h2⟩
  simp only[go_sem]
  have hnb:=xi y (qq (acc:=acc) (sym:=sym) (i:=i) hr))
 |(
  refine aa.here 12 56 5 rfl ?_
  refine aa.b6 (ι:=Nat×Int) [13,56,57,58,59,60,61,62,63,64,65,66,67,68,69,70,71,72,73,74,75,76,77,78,79,80,81,82,83,84,85,86,87] (fun⟨j,u⟩=>[(12,i64 j),(9,i64 u)]) (fun⟨j,u⟩=>[some [.agg [aR bk.af,bZ bk.ai,.sl none 1 (bk.ids.map str),i64 bk.clock,i64 bk.bad]]]) (fun⟨j,u⟩=>[]) (fun⟨j,u⟩=>j≤bk.af.length∧u=cB y (dV bk acc sym j)) (fun⟨j,u⟩=>bk.af.length-j) ((0,n)) ?_ ?_ ?_
  ·(try simp only[go_sem]);(repeat'(exact .inr (aM rfl)));done
  ·exact⟨Nat.zero_le _,by rw[h2];exact Wg (by omega)⟩
  rintro⟨j,u⟩ ⟨g1,g2⟩
  simp only[go_sem]
  have hnb2:=xi y (uV (acc:=acc) (sym:=sym) (i:=j) hr))
 |(
  first
  |(refine⟨(i+1,n),?_,⟨by show i+1≤bk.ai.length;omega,by show n=_;rw[ry hb,Qj (by first|exact p5 (by assumption)|exact qK (by assumption)|exact rB (by assumption)),h2];omega⟩,by show bk.ai.length-(i+1)<bk.ai.length-i;omega⟩
    rw[←h2] at hnb;(try simp only[go_sem]);(repeat rw[aq (by omega) (by omega)]);(repeat'(first|refine And.intro ?_ ?_|exact .inr rfl|exact .inr (aM rfl)));done)
  |(refine⟨(i+1,n+f.al),?_,⟨by show i+1≤bk.ai.length;omega,by show n+f.al=_;rw[ry hb,Nv ⟨by assumption,by assumption,by assumption⟩ (by assumption),h2]⟩,by show bk.ai.length-(i+1)<bk.ai.length-i;omega⟩
    rw[←h2] at hnb;(try simp only[go_sem]);(repeat rw[aq (by omega) (by omega)]);(repeat'(first|refine And.intro ?_ ?_|exact .inr rfl|exact .inr (aM rfl)));done)
  |(refine⟨(i+1,n-f.al),?_,⟨by show i+1≤bk.ai.length;omega,by show n-f.al=_;rw[ry hb,Uj ⟨by assumption,by assumption,by assumption⟩ (by assumption) (by assumption),h2];omega⟩,by show bk.ai.length-(i+1)<bk.ai.length-i;omega⟩
    rw[←h2] at hnb;(try simp only[go_sem]);(repeat rw[aq (by omega) (by omega)]);(repeat'(first|refine And.intro ?_ ?_|exact .inr rfl|exact .inr (aM rfl)));done)
  |(refine⟨(i+1,n),?_,⟨by show i+1≤bk.ai.length;omega,by show n=_;rw[ry hb,XD ⟨by assumption,by assumption,by assumption⟩ (by assumption) (by assumption),h2];omega⟩,by show bk.ai.length-(i+1)<bk.ai.length-i;omega⟩
    rw[←h2] at hnb;(try simp only[go_sem]);(repeat rw[aq (by omega) (by omega)]);(repeat'(first|refine And.intro ?_ ?_|exact .inr rfl|exact .inr (aM rfl)));done))
 |(
  first
  |(refine⟨(j+1,u),?_,⟨by show j+1≤bk.af.length;omega,by show u=_;rw[zW hc,GQ (by(try clear hK);simp_all),g2];omega⟩,by show bk.af.length-(j+1)<bk.af.length-j;omega⟩
    rw[←g2] at hnb2;have hlb:=mS o;(try simp only[go_sem]);(repeat rw[aq (by omega) (by omega)]);(repeat'(first|refine And.intro ?_ ?_|exact .inr rfl|exact .inr (aM rfl)));done)
  |(refine⟨(j+1,u+db o),?_,⟨by show j+1≤bk.af.length;omega,by show u+db o=_;rw[zW hc,Uy (by assumption) (by assumption) (by assumption),g2]⟩,by show bk.af.length-(j+1)<bk.af.length-j;omega⟩
    rw[←g2] at hnb2;have hlb:=mS o;(try simp only[go_sem]);(repeat rw[aq (by omega) (by omega)]);(repeat'(first|refine And.intro ?_ ?_|exact .inr rfl|exact .inr (aM rfl)));done))
 |(
  refine aa.ret ?_
  refine az.is ?_;simp only[go_sem,aB,aE,aF,aA,aC,aD]<;>((rw[g2,Fx (by omega)];done)))
 |refine aa.fin (by assumption) ?_)
theorem RI(bk:Bk)(acc sym:Bs)(ho:bk.af.length≤1000000)(hf:bk.ai.length≤1000000)(hi:bk.ids.length≤1000000):ae E 22 [dn bk,str acc,str sym] (fun r t=>r=wV (fF bk acc sym)∧t=[]):=by
 refine ae.av (n:=20) (rs:=[.cell 6 45]) Tryz.func22 rfl Tryz.ntmps22 rfl ?_
 repeat'(first
 |refine aa.ab fun K hK=>?_
 |(refine aa.region ?_;simp only[go_sem])
 |(refine aa.here 3 11 10 rfl ?_;refine aa.bc [0,1,2,4,5,6,3,7,8,9] [] (by kernel_rfl) (by kernel_rfl) rfl ?_;simp only[go_sem])
 |(refine hK _ ?_;clear hK K)
 |refine aa.cond rfl (fun c=>?_) (fun c=>?_)<;>(try simp only[dD] at c)
 |refine aa.skip ?_
 |(refine ah.one (qJ bk (by omega) (by omega) (by omega)) (by kernel_rfl) rfl ?_;simp only[go_sem])
 |(refine ah.one (A5 bk acc sym true (by assumption)) (by kernel_rfl) rfl ?_;simp only[go_sem])
 |(refine ah.one (A5 bk acc sym false (by assumption)) (by kernel_rfl) rfl ?_;simp only[go_sem])
 |(
  refine aa.ret ?_
  refine az.is ?_;simp only[go_sem,aB,aE,aF,aA,aC,aD]<;>(first|(rw[yh (by assumption)];simp;done)|(unfold fF;rw[if_pos (by assumption)];(exact⟨rfl,rfl⟩)))))
end Go.Proofs.YtajeeghgiilhiaaGreat
end
