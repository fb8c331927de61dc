/- (T5, K5) -/
import Derived.Test.YtajeeghgiilhiaaGreatKxP
import Derived.Test.YtajeeghgiilhiaaGreatKxJ
import Derived.Test.YtajeeghgiilhiaaGreatKxQb
import Derived.Test.YtajeeghgiilhiaaGreatKxA
set_option linter.unusedVariables false
set_option linter.unusedSimpArgs false
set_option maxHeartbeats 16000000
set_option maxRecDepth 8000
section
namespace Go.Proofs.YtajeeghgiilhiaaGreat
open Go Go.Abs Go.RowKit Go.Bk
theorem Bc:∀(k:Nat) (l:List Po),(fW k l).length≤k
 |0,_=>by simp[fW]
 |k+1,[]=>by simp[fW]
 |k+1,p::l=>by rw[fW,List.length_cons];have:=Bc k (l.dropWhile fun q=>decide (aN q=aN p));omega
theorem IG(ls:List (List Po)):(dP ls).1.length≤ls.flatten.length:=by
 unfold dP;split
 ·exact Bc _ _
 ·simp
theorem RK(ls:List (List Po))(hl1:ls.length≤1000000)(hl2:ls.flatten.length≤1000000):ai E 61 [tr ls] (fun r t=>r= .aC [ez (dP ls).1,i64 (dP ls).2]∧t=[]):=by
 refine ai.aw (n:=55) (rs:=[.tmp 2,.tmp 3]) Tryz.func61 rfl Tryz.ntmps61 rfl ?_
 repeat'(first
 |refine aa.aj fun K hK=>?_
 |(
  refine aa.here 4 13 3 rfl ?_
  obtain⟨l,hx⟩:∃l,ls[i]?=some l:=⟨_,List.getElem?_eq_getElem ab⟩
  have hml:=pG hx
  have hfn:=oe (ls:=ls) (i:=i+1)
  rw[om hx,List.length_append] at hfn
  refine aa.region ?_;simp only[go_sem])
 |(
  refine aa.here 8 21 2 rfl ?_
  refine aa.iN [1] ay rfl rfl ?_
  simp only[go_sem,Qn,List.length_map]
  refine aa.region ?_;simp only[go_sem])
 |(
  refine aa.here 10 7 1 rfl ?_
  refine aa.mb 4 0 5 ls.flatten.length (ls.flatten.length+m) ((la ls.flatten).map bL) (spare 5 m) rfl rfl (by rw[List.length_map,qC]) (IA _) ?_
  simp only[go_sem]
  refine aa.region ?_;simp only[go_sem])
 |(
  refine aa.here 12 8 1 rfl ?_
  obtain⟨p,r,hq⟩:∃p r,q=p::r:=by
   match q,(show 0<q.length by omega) with
   |p::r,_=>exact⟨p,r,rfl⟩
  have hq0:q[0]?=some p:=by rw[hq];rfl
  refine aa.region ?_;simp only[go_sem])
 |(
  refine aa.here 15 44 8 rfl ?_
  have hn:n=1+(r.takeWhile (cV p)).length:=by
   first|exact ME j1 j2 (hq ▸ hb) ae |exact UK j2 (by rw[←hq];omega)
  have ht:q.take n=p::r.takeWhile (cV p):=by rw[hn,hq];exact Qs
  have hd:q.drop n=r.dropWhile (cV p):=by rw[hn,hq];exact Yt
  have hnl:n≤q.length:=by omega
  refine aa.region ?_;simp only[go_sem])
 |(
  refine aa.here 7 18 4 rfl ?_
  refine aa.bA ?_
  refine an.at 4 2 rfl ?_
  simp only[go_sem]
  refine an.xX (es:=(ls.take i).flatten.map bL) (xs:=l.map bL) (m0:=m) yK BB (by simp only[List.length_map];rfl) rfl rfl (by simp only[List.length_map];omega) (by simp only[List.length_map];omega) ?_
  intro mm
  simp only[go_sem]
  refine an.of ?_
  simp only[go_sem])
 |(
  refine aa.here 9 22 2 rfl ?_
  have hti:ls.take i=ls:=List.take_of_length_le ab
  have hall:ls.all cE=true:=uX ab h2
  rw[hti]
  refine aa.bA ?_
  refine an.at 2 1 rfl ?_
  simp only[go_sem]
  (repeat(refine⟨⟨_,rfl⟩,?_⟩))
  refine VW (id:=0) (m:=m) (N:=ls.flatten.length) (d:=ls.flatten.toArray) bz bz bz (by(rfl)) (bu.cons (fun es h=>by cases h;exact mU ls.flatten.toArray m) bu.nil) ab aD ?_
  simp only[go_sem]
  refine an.of ?_
  simp only[go_sem])
 |(refine aa.region ?_;simp only[go_sem])
 |(refine aa.here 13 27 15 rfl ?_;refine aa.bf [0,1,2,3,4,5,6,7,8,9,10,11,12,13,14] [] af af rfl ?_;simp only[go_sem])
 |(refine hK _ ?_;clear hK K)
 |refine aa.block ?_
 |refine aa.cond rfl (fun c=>?_) (fun c=>?_)<;>first|exact Bool.noConfusion c|(try simp only[dD] at c)
 |refine aa.skip ?_
 |(refine aa.exit ?_;simp only[go_sem])
 |(refine ah.one (VX l (by have:=pG hx;omega)) af rfl ?_;simp only[go_sem])
 |(refine ah.one (ri p b) af rfl ?_;simp only[go_sem])
 |(rw[ht];refine ah.one (Wc (p::r.takeWhile (cV p)) p (by have:=BL (p:=p) (r:=r);rw[←hq] at this;simp only[List.length_cons];omega) rfl) af rfl ?_;simp only[go_sem])
 |(refine aL.split (fun h=>?_) (fun h=>?_)<;>simp only[h,go_sem]<;>(try simp only[dD] at h))
 |(refine aM.bG ae ?_;(try simp only[go_sem]))
 |((first|refine aM.nth ?_ (fun b hb=>?_)|with_reducible refine And.intro ?_ ?_);(focus(first|omega|(simp;done)));(try simp only[hb,go_sem]))
 |(
  refine aa.here 3 12 1 rfl ?_
  refine aa.tZ 4 5 rfl ?_
  simp only[go_sem]
  refine aa.ck (ι:=Nat×Nat) [2,3,6,12,13,14,15,16,17,18,19,20,21] (fun⟨i,m⟩=>[(11,i64 i),(4,.mu 0 5 0 (ls.take i).flatten.length ((ls.take i).flatten.length+m))]) (fun⟨i,m⟩=>[some ((ls.take i).flatten.map bL++spare 5 m)]) (fun⟨i,m⟩=>[]) (fun⟨i,m⟩=>i≤ls.length∧(ls.take i).all cE=true) (fun⟨i,m⟩=>ls.length-i) ((0,0)) ?_ ?_ ?_
  ·(try simp only[go_sem]);(repeat'(first|refine And.intro ?_ ?_|exact .inr rfl|exact .inr ⟨rfl,aR rfl⟩));done
  ·exact⟨by omega,rfl⟩
  rintro⟨i,m⟩ ⟨h1,h2⟩
  simp only[go_sem]
  have hfl:=oe (ls:=ls) (i:=i))
 |(
  refine aa.here 11 24 3 rfl ?_
  refine aa.fu 7 5 rfl ?_
  simp only[go_sem]
  refine aa.ck (ι:=List Po×List Po) [8,24,25,26,27,28,29,30,31,32,33,34,35,36,37,38,39,40,41,42,43,44,45,46,47,48,49,50,51,52,53] (fun⟨q,out⟩=>[(4,ez q),(7,.sl (some 0) 5 (out.map bL))]) (fun⟨q,out⟩=>[none]) (fun⟨q,out⟩=>[out.length]) (fun⟨q,out⟩=>q.length+out.length≤ls.flatten.length∧out++lO q=lO (la ls.flatten)) (fun⟨q,out⟩=>q.length) ((la ls.flatten,[])) ?_ ?_ ?_
  ·(try simp only[go_sem]);(repeat'(first|fail));done
  ·exact⟨by rw[qC];simp,rfl⟩
  rintro⟨q,out⟩ ⟨k1,k2⟩
  simp only[go_sem])
 |(
  refine aa.here 13 27 15 rfl ?_
  have hrl:=BL (p:=p) (r:=r)
  rw[←hq] at hrl
  refine aa.cC (ι:=Nat) [27,28,29,30,31,32,33,34,35,36,37,38,39,40,41,42,43] (fun(n:Nat)=>[(8,i64 n)]) (fun(n:Nat)=>1≤n∧n≤1+(r.takeWhile (cV p)).length) (fun(n:Nat)=>q.length-n) (1) ?_ ?_ ?_
  ·(try simp only[go_sem]);(repeat'(first|fail));done
  ·exact⟨by omega,by omega⟩
  rintro n ⟨j1,j2⟩
  simp only[go_sem])
 |(
  refine⟨(i+1,mm),?_,⟨by show i+1≤ls.length;omega,CH hx h2 ae⟩,by show ls.length-(i+1)<ls.length-i;omega⟩
  (try simp only[go_sem]);(try rw[av ab ab]);rw[om hx,List.length_append];(repeat'(first|exact .inr ⟨rfl,TJ⟩|refine And.intro ?_ ?_|exact .inr rfl));done)
 |(
  refine⟨(r.dropWhile (cV p),out++[ed (aN p) (p::r.takeWhile (cV p))]),?_,⟨by show(r.dropWhile (cV p)).length+(out++[_]).length≤_;rw[←hd,List.length_drop,List.length_append,List.length_singleton];omega,by show(out++[_])++lO (r.dropWhile (cV p))=_;rw[←k2,hq,Yg];simp⟩,by show(r.dropWhile (cV p)).length<q.length;rw[←hd,List.length_drop];omega⟩
  (try simp only[go_sem]);rw[hd];(try simp only[List.map_append,List.map_cons,List.map_nil,List.length_append,List.length_singleton]);(repeat'(first|refine And.intro ?_ ?_|(simp;done)));done)
 |(
  refine⟨n+1,?_,?_,?_⟩
  ·(try simp only[go_sem]);(try rw[av ab ab]);(repeat'(exact .inr rfl));done
  ·exact⟨by omega,Pz j1 j2 (hq ▸ hb) ae⟩
  ·(try simp only[]);omega)
 |(
  refine aa.ret ?_
  refine aB.is ?_;simp only[go_sem,aE,aI,aH,aG,aJ,aF]<;>(first|(rw[xL hx ae];exact⟨trivial,rfl⟩)|(rw[EA hall,←k2];simp[lO,fW,show q=[] from List.eq_nil_of_length_eq_zero ab];done)))
 |refine aa.fin ae ?_)
theorem Fz(p:Po):ai E 135 [bL p] (fun r t=>r=bl p.over∧t=[]):=by
 refine ai.aw (n:=5) (rs:=[.tmp 2]) Tryz.func135 rfl Tryz.ntmps135 rfl ?_
 repeat'(first
 |refine aa.aj fun K hK=>?_
 |(refine aa.region ?_;simp only[go_sem])
 |(refine hK _ ?_;clear hK K)
 |(
  refine aa.ret ?_
  refine aB.is ?_;simp only[go_sem,aE,aI,aH,aG,aJ,aF]<;>rfl))
theorem Fi(l:List Po)(hl:l.length≤9223372036854775807):ai E 184 [ez l,.fn 135 []] (fun r t=>r=i64 (eY (fun p:Po=>p.over) l)∧t=[]):=by
 refine ai.aw (n:=19) (rs:=[.tmp 4]) Tryz.func184 rfl Tryz.ntmps184 rfl ?_
 repeat'(first
 |refine aa.aj fun K hK=>?_
 |(refine aa.region ?_;simp only[go_sem])
 |(refine hK _ ?_;clear hK K)
 |refine aa.block ?_
 |refine aa.cond rfl (fun c=>?_) (fun c=>?_)<;>(try simp only[dD] at c)
 |refine aa.skip ?_
 |(refine aa.exit ?_;simp only[go_sem])
 |(refine ah.one (Fz _) af rfl ?_;simp only[go_sem])
 |((first|refine aM.nth ?_ (fun b hb=>?_)|with_reducible refine And.intro ?_ ?_);(focus(first|omega|(simp;done)));(try simp only[hb,go_sem]))
 |(
  refine aa.here 2 9 1 rfl ?_
  refine aa.cC (ι:=Nat) [4,5,9,10,11,12,13,14,15,16,17,18] (fun(i:Nat)=>[(8,i64 i)]) (fun(i:Nat)=>i≤l.length∧(l.take i).all (fun p:Po=>!p.over)=true) (fun(i:Nat)=>l.length-i) (0) ?_ ?_ ?_
  ·(try simp only[go_sem]);(repeat'(first|fail));done
  ·exact⟨by omega,by simp⟩
  rintro i ⟨h1,h2⟩
  simp only[go_sem])
 |(
  refine⟨i+1,?_,?_,?_⟩
  ·(try simp only[go_sem]);(try rw[av ab ab]);(repeat'(exact .inr rfl));done
  ·exact⟨by omega,kR hb h2 (by simp_all)⟩
  ·(try simp only[]);omega)
 |(
  refine aa.ret ?_
  refine aB.is ?_;simp only[go_sem,aE,aI,aH,aG,aJ,aF]<;>(first|(rw[qJ hb (by simp_all) h2];done)|(rw[qy ab h2];done)))
 |refine aa.fin ae ?_)
theorem SO(l:List Po)(hl:l.length≤9223372036854775807):ai E 134 [ez l,.fn 135 []] (fun r t=>r=bl (decide (0≤eY (fun p:Po=>p.over) l))∧t=[]):=by
 refine ai.aw (n:=9) (rs:=[.tmp 4]) Tryz.func134 rfl Tryz.ntmps134 rfl ?_
 repeat'(first
 |refine aa.aj fun K hK=>?_
 |(refine aa.region ?_;simp only[go_sem])
 |(refine hK _ ?_;clear hK K)
 |(refine ah.one (Fi l hl) af rfl ?_;simp only[go_sem])
 |(
  refine aa.ret ?_
  refine aB.is ?_;simp only[go_sem,aE,aI,aH,aG,aJ,aF]<;>rfl))
theorem Ip(l:List Po)(hl:l.length≤9223372036854775807):ai E 57 [ez l] (fun r t=>r=bl (l.any (·.over))∧t=[]):=by
 refine ai.aw (n:=5) (rs:=[.tmp 2]) Tryz.func57 rfl Tryz.ntmps57 rfl ?_
 repeat'(first
 |refine aa.aj fun K hK=>?_
 |(refine aa.region ?_;simp only[go_sem])
 |(refine hK _ ?_;clear hK K)
 |(refine ah.one (SO l hl) af rfl ?_;simp only[go_sem])
 |(
  refine aa.ret ?_
  refine aB.is ?_;simp only[go_sem,aE,aI,aH,aG,aJ,aF]<;>(exact uR)))
structure GP(n:Nm)(F:List Po)(qs vs:List Int)(ov:Bool):Prop where
 q:qs=(dR n F).map (·.aq)
 v:vs=(dR n F).map (·.value)
 o:ov=(dR n F).any (·.over)
section
variable{n:Nm}{F l:List Po}{k:Nat}{x:Po}{qs vs:List Int}{ov:Bool}{ls:List (List Po)}{i:Nat}
theorem GP.zero:GP n [] [] [] false:=⟨rfl,rfl,rfl⟩
theorem GP.lens(h:GP n F qs vs ov):qs.length≤F.length∧vs.length≤F.length:=by
 rw[h.q,h.v,List.length_map,List.length_map]
 exact⟨List.length_filter_le _ _,List.length_filter_le _ _⟩
theorem GP.no{a s:Bs}(h:GP (a,s) (F++l.take k) qs vs ov)(hy:l[k]?=some x)(hn:¬(x.acc=a∧x.sym=s)):GP (a,s) (F++l.take (k+1)) qs vs ov:=by
 have e:dR (a,s) (F++l.take (k+1))=dR (a,s) (F++l.take k):=by
  rw[cF hy,←List.append_assoc]
  unfold dR
  rw[List.filter_append,List.filter_cons_of_neg (by simpa[aN] using hn)];simp
 exact⟨by rw[e];exact h.q,by rw[e];exact h.v,by rw[e];exact h.o⟩
theorem GP.yes{a s:Bs}(h:GP (a,s) (F++l.take k) qs vs ov)(hy:l[k]?=some x)(h1:x.acc=a)(h2:x.sym=s){o:Bool}(ho:o=(ov||x.over)):GP (a,s) (F++l.take (k+1)) (qs++[x.aq]) (vs++[x.value]) o:=by
 have e:dR (a,s) (F++l.take (k+1))=dR (a,s) (F++l.take k)++[x]:=by
  rw[cF hy,←List.append_assoc]
  unfold dR
  rw[List.filter_append,List.filter_cons_of_pos (by simp[aN,h1,h2])];simp
 refine⟨by rw[e,List.map_append,←h.q];rfl,by rw[e,List.map_append,←h.v];rfl,by rw[e,List.any_append,←h.o,ho];simp⟩
theorem C5{a s:Bs}(h:¬x.acc=a):¬(x.acc=a∧x.sym=s):=fun e=>h e.1
theorem Qq{a s:Bs}(h:¬x.sym=s):¬(x.acc=a∧x.sym=s):=fun e=>h e.2
theorem vB(h:GP n (ls.take i).flatten qs vs ov)(hi:ls.length≤i)(c:ov=true∨(bF qs).2=false∨(bF vs).2=false):ec ls.flatten n=⟨n.1,n.2,0,0,true⟩:=by
 rw[List.take_of_length_le hi] at h
 unfold ec ed
 rw[←h.q,←h.v,←h.o]
 rcases c with c|c|c
 ·rw[if_pos c]
 ·rw[c];split<;>simp
 ·rw[c];split<;>simp
theorem Hq(h:GP n (ls.take i).flatten qs vs ov)(hi:ls.length≤i)(c:ov=false)(c1:(bF qs).2=true)(c2:(bF vs).2=true):ec ls.flatten n=⟨n.1,n.2,(bF qs).1,(bF vs).1,false⟩:=by
 rw[List.take_of_length_le hi] at h
 unfold ec ed
 rw[←h.q,←h.v,←h.o,if_neg (by simp[c]),if_pos (by rw[c1,c2];rfl)]
theorem NX{g:Nm→Po}(hy:l[k]?=some x):fJ g ((F++l.take (k+1)).map aN)=fe (fJ g ((F++l.take k).map aN)) (g (aN x)):=by
 rw[cF hy,←List.append_assoc,List.map_append]
 unfold fJ
 rw[List.foldl_append];rfl
end
theorem Jn(ls:List (List Po))(a s:Bs)(hl:ls.length≤1000000)(hfl:ls.flatten.length≤1000000):ai E 73 [tr ls,str a,str s] (fun r t=>r=bL (ec ls.flatten (a,s))∧t=[]):=by
 refine ai.aw (n:=91) (rs:=[.cell 6 49]) Tryz.func73 rfl Tryz.ntmps73 rfl ?_
 repeat'(first
 |refine aa.aj fun K hK=>?_
 |(
  refine aa.here 6 11 1 rfl ?_
  obtain⟨l,hx⟩:∃l,ls[i]?=some l:=⟨_,List.getElem?_eq_getElem ab⟩
  have hll:=pG hx
  refine aa.region ?_;simp only[go_sem])
 |(
  refine aa.here 9 32 9 rfl ?_
  obtain⟨x,hy⟩:∃x,l[k]?=some x:=⟨_,List.getElem?_eq_getElem ab⟩
  refine aa.region ?_;simp only[go_sem])
 |(refine aa.region ?_;simp only[go_sem])
 |(refine hK _ ?_;clear hK K)
 |refine aa.block ?_
 |refine aa.cond rfl (fun c=>?_) (fun c=>?_)<;>first|exact Bool.noConfusion c|(try simp only[dD] at c)
 |refine aa.skip ?_
 |(refine aa.exit ?_;simp only[go_sem])
 |(refine ah.one (qW qs ab) af rfl ?_;simp only[go_sem])
 |(refine ah.one (qW vs ab) af rfl ?_;simp only[go_sem])
 |(refine aL.cc (fun h=>?_) (fun h=>?_)<;>simp only[h,go_sem]<;>(try simp only[dD] at h))
 |(refine aL.split (fun h=>?_) (fun h=>?_)<;>simp only[h,go_sem]<;>(try simp only[dD] at h))
 |(refine aM.bG ae ?_;(try simp only[go_sem]))
 |((with_reducible refine And.intro ?_ ?_);(focus(first|omega|(simp;done)));(try simp only[hb,go_sem]))
 |(
  refine aa.here 4 17 4 rfl ?_
  refine aa.fu 8 1 rfl ?_
  refine aa.fu 9 1 rfl ?_
  simp only[go_sem]
  refine aa.ck (ι:=Nat×List Int×List Int×Bool) [11,12,17,18,19,20,21,22,23,24,25,26,27,28,29,30,31,32,33,34,35,36,37,38,39,40,41,42,43,44,45,46,47,48,49,50,51,52,53,54,55,56,57,58,59,60,61,62,63] (fun⟨i,qs,vs,ov⟩=>[(10,i64 i),(8,.sl (some 0) 1 (qs.map i64)),(9,.sl (some 1) 1 (vs.map i64)),(7,bl ov)]) (fun⟨i,qs,vs,ov⟩=>[some [.agg [str [],str [],i64 0,i64 0,bl false]]]) (fun⟨i,qs,vs,ov⟩=>[qs.length,vs.length]) (fun⟨i,qs,vs,ov⟩=>i≤ls.length∧GP (a,s) (ls.take i).flatten qs vs ov) (fun⟨i,qs,vs,ov⟩=>ls.length-i) ((0,[],[],false)) ?_ ?_ ?_
  ·(try simp only[go_sem]);(repeat'(trivial));done
  ·exact⟨by omega,GP.zero⟩
  rintro⟨i,qs,vs,ov⟩ ⟨h1,h2⟩
  simp only[go_sem]
  have hf0:=oe (ls:=ls) (i:=i)
  have hq0:=h2.lens)
 |(
  refine aa.here 7 23 7 rfl ?_
  refine aa.ck (ι:=Nat×List Int×List Int×Bool) [12,23,24,25,26,27,28,29,30,31,32,33,34,35,36,37,38,39,40,41,42,43,44,45,46,47,48,49,50,51,52,53,54,55,56,57,58,59,60,61,62,63] (fun⟨k,qs2,vs2,ov2⟩=>[(11,i64 k),(8,.sl (some 0) 1 (qs2.map i64)),(9,.sl (some 1) 1 (vs2.map i64)),(7,bl ov2)]) (fun⟨k,qs2,vs2,ov2⟩=>[some [.agg [str [],str [],i64 0,i64 0,bl false]]]) (fun⟨k,qs2,vs2,ov2⟩=>[qs2.length,vs2.length]) (fun⟨k,qs2,vs2,ov2⟩=>k≤l.length∧GP (a,s) ((ls.take i).flatten++l.take k) qs2 vs2 ov2) (fun⟨k,qs2,vs2,ov2⟩=>l.length-k) ((0,qs,vs,ov)) ?_ ?_ ?_
  ·(try simp only[go_sem]);(repeat'(trivial));done
  ·exact⟨by omega,by simpa using h2⟩
  rintro⟨k,qs2,vs2,ov2⟩ ⟨g1,g2⟩
  simp only[go_sem]
  have hq2:=g2.lens
  have hl2:((ls.take i).flatten++l.take k).length≤2000000:=by rw[List.length_append,List.length_take];omega)
 |(
  refine⟨(i+1,qs2,vs2,ov2),?_,⟨by show i+1≤ls.length;omega,by show GP (a,s) (ls.take (i+1)).flatten qs2 vs2 ov2;rw[om hx];rw[List.take_of_length_le (show l.length≤k by omega)] at g2;exact g2⟩,by show ls.length-(i+1)<ls.length-i;omega⟩
  (try simp only[go_sem]);(try rw[av ab ab]);(repeat'(first|refine And.intro ?_ ?_|exact .inr rfl|trivial));done)
 |(
  first
  |(refine⟨(k+1,qs2,vs2,ov2),?_,⟨by show k+1≤l.length;omega,by show GP (a,s) ((ls.take i).flatten++l.take (k+1)) qs2 vs2 ov2;exact g2.no hy (by first|exact C5 ae |exact Qq ae |(intro e;simp_all))⟩,by show l.length-(k+1)<l.length-k;omega⟩
    (try simp only[go_sem]);(try rw[av ab ab]);(repeat'(first|refine And.intro ?_ ?_|exact .inr rfl|trivial));done)
  |(refine⟨(k+1,qs2++[x.aq],vs2++[x.value],true),?_,⟨by show k+1≤l.length;omega,by show GP (a,s) ((ls.take i).flatten++l.take (k+1)) (qs2++[x.aq]) (vs2++[x.value]) true;exact g2.yes hy ae ae (by rw[‹ov2=true›];rfl)⟩,by show l.length-(k+1)<l.length-k;omega⟩
    (try simp only[go_sem]);(try rw[av ab ab]);(repeat'(first|refine And.intro ?_ ?_|exact .inr rfl|trivial|(simp;done)));done)
  |(refine⟨(k+1,qs2++[x.aq],vs2++[x.value],x.over),?_,⟨by show k+1≤l.length;omega,by show GP (a,s) ((ls.take i).flatten++l.take (k+1)) (qs2++[x.aq]) (vs2++[x.value]) x.over;exact g2.yes hy ae ae (by rw[‹ov2=false›];rfl)⟩,by show l.length-(k+1)<l.length-k;omega⟩
    (try simp only[go_sem]);(try rw[av ab ab]);(repeat'(first|refine And.intro ?_ ?_|exact .inr rfl|trivial|(simp;done)));done))
 |(
  refine aa.ret ?_
  refine aB.is ?_;simp only[go_sem,aE,aI,aH,aG,aJ,aF]<;>(first|(rw[vB h2 ab (.inl ae)];simp;done)|(rw[vB h2 ab (.inr (.inl ae))];simp;done)|(rw[vB h2 ab (.inr (.inr ae))];simp;done)|(rw[Hq h2 ab ae ae ae];simp;done)))
 |refine aa.fin ae ?_)
theorem U5(ls:List (List Po))(hl:ls.length≤1000000)(hfl:ls.flatten.length≤1000000):ai E 62 [tr ls] (fun r t=>r= .aC [ez (dP ls).1,i64 (dP ls).2]∧t=[]):=by
 refine ai.aw (n:=56) (rs:=[.tmp 2,.tmp 3]) Tryz.func62 rfl Tryz.ntmps62 rfl ?_
 repeat'(first
 |refine aa.aj fun K hK=>?_
 |(
  refine aa.here 5 14 6 rfl ?_
  obtain⟨l,hx⟩:∃l,ls[j]?=some l:=⟨_,List.getElem?_eq_getElem ab⟩
  have hll:=pG hx
  refine aa.region ?_;simp only[go_sem])
 |(
  refine aa.here 10 7 1 rfl ?_
  obtain⟨l,hz⟩:∃l,ls[i]?=some l:=⟨_,List.getElem?_eq_getElem ab⟩
  have hll:=pG hz
  refine aa.region ?_;simp only[go_sem])
 |(
  refine aa.here 13 35 21 rfl ?_
  obtain⟨x,hy⟩:∃x,l[k]?=some x:=⟨_,List.getElem?_eq_getElem ab⟩
  refine aa.bf [0,1,2,3,4,5,6,7,8,9,10,11,12,13,14,15,16,17,18,19,20] [] af af rfl ?_;simp only[go_sem])
 |(refine aa.region ?_;simp only[go_sem])
 |(refine hK _ ?_;clear hK K)
 |refine aa.block ?_
 |refine aa.cond rfl (fun c=>?_) (fun c=>?_)<;>(try simp only[dD] at c)
 |refine aa.skip ?_
 |(refine aa.exit ?_;simp only[go_sem])
 |(refine ah.one (Xj l ab) af rfl ?_;simp only[go_sem])
 |(refine ah.one (Jn ls x.acc x.sym hl hfl) af rfl ?_;simp only[go_sem])
 |(refine ah.one (B4 (fJ (ec ls.flatten) (((ls.take i).flatten++l.take k).map aN)) (ec ls.flatten (x.acc,x.sym)) ab) af rfl ?_;simp only[go_sem])
 |(refine aM.bG ae ?_;(try simp only[go_sem]))
 |((with_reducible refine And.intro ?_ ?_);(focus((simp;done)));(try simp only[hb,go_sem]))
 |(
  refine aa.here 3 8 4 rfl ?_
  refine aa.cC (ι:=Nat) [2,3,8,9,10,11,12,13,14,15,16,17,18,19] (fun(j:Nat)=>[(5,i64 j)]) (fun(j:Nat)=>j≤ls.length∧(ls.take j).all cE=true) (fun(j:Nat)=>ls.length-j) (0) ?_ ?_ ?_
  ·(try simp only[go_sem]);(repeat'(first|fail));done
  ·exact⟨by omega,rfl⟩
  rintro j ⟨h1,h2⟩
  simp only[go_sem])
 |(
  refine aa.here 8 20 4 rfl ?_
  refine aa.Ce 4 5 rfl ?_
  simp only[go_sem]
  refine aa.cC (ι:=Nat) [7,20,21,22,23,24,25,26,27,28,29,30,31,32,33,34,35,36,37,38,39,40,41,42,43,44,45,46,47,48,49,50,51,52,53,54] (fun(i:Nat)=>[(6,i64 i),(4,ez (fJ (ec ls.flatten) ((ls.take i).flatten.map aN)))]) (fun(i:Nat)=>i≤ls.length) (fun(i:Nat)=>ls.length-i) (0) ?_ ?_ ?_
  ·(try simp only[go_sem]);(repeat'(exact .inr rfl));done
  ·exact Nat.zero_le _
  rintro i g1
  simp only[go_sem]
  have hall:=uX ab h2
  have hf0:=oe (ls:=ls) (i:=i))
 |(
  refine aa.here 11 26 7 rfl ?_
  refine aa.cC (ι:=Nat) [26,27,28,29,30,31,32,33,34,35,36,37,38,39,40,41,42,43,44,45,46,47,48,49,50,51,52,53,54] (fun(k:Nat)=>[(7,i64 k),(4,ez (fJ (ec ls.flatten) (((ls.take i).flatten++l.take k).map aN)))]) (fun(k:Nat)=>k≤l.length) (fun(k:Nat)=>l.length-k) (0) ?_ ?_ ?_
  ·(try simp only[go_sem]);(try rw[List.take_zero,List.append_nil]);(repeat'(first|fail));done
  ·exact Nat.zero_le _
  rintro k f1
  simp only[go_sem]
  have hpl:=BN (ec ls.flatten) (((ls.take i).flatten++l.take k).map aN)
  have hl2:(((ls.take i).flatten++l.take k).map aN).length≤1000000:=by have:=om hz;have h9:=oe (ls:=ls) (i:=i+1);rw[this,List.length_append] at h9;rw[List.length_map,List.length_append,List.length_take];omega)
 |(
  refine⟨j+1,?_,?_,?_⟩
  ·(try simp only[go_sem]);(try rw[av ab ab]);(repeat'(first|refine And.intro ?_ ?_|exact .inr rfl));done
  ·exact⟨by omega,CH hx h2 ae⟩
  ·(try simp only[]);omega)
 |(
  refine⟨i+1,?_,by show i+1≤ls.length;omega,by show ls.length-(i+1)<ls.length-i;omega⟩
  (try rw[om hz]);(try rw[List.take_of_length_le (show l.length≤k by omega)]);(try simp only[go_sem]);(try rw[av ab ab]);(repeat'(exact .inr rfl));done)
 |(
  refine⟨k+1,?_,?_,?_⟩
  ·(try simp only[go_sem]);(try rw[av ab ab]);(try rw[NX hy]);(repeat'(first|refine And.intro ?_ ?_|exact .inr rfl));done
  ·omega
  ·(try simp only[]);omega)
 |(
  refine aa.ret ?_
  refine aB.is ?_;simp only[go_sem,aE,aI,aH,aG,aJ,aF]<;>(first|(rw[xL hx ae];(exact⟨trivial,rfl⟩))|(have hall:=uX ab h2;rw[List.take_of_length_le (show ls.length≤i by omega),VY hall,sq hall];(exact⟨rfl,rfl⟩))))
 |refine aa.fin ae ?_)
end Go.Proofs.YtajeeghgiilhiaaGreat
end
