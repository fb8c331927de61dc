/- (K6, G22, GtE, G37) -/
import Derived.Test.YtajeeghgiilhiaaGreatKxQc
import Derived.Test.YtajeeghgiilhiaaGreatKxJ
import Derived.Test.YtajeeghgiilhiaaGreatKxO
import Derived.Test.YtajeeghgiilhiaaGreatKxL
import Derived.Test.YtajeeghgiilhiaaGreatKxN
import Derived.Test.YtajeeghgiilhiaaGreatKxK
import Derived.Test.YtajeeghgiilhiaaGreatKxA
set_option linter.unusedVariables false
set_option linter.unusedSimpArgs false
set_option maxHeartbeats 16000000
set_option maxRecDepth 8000
section
namespace Go.Proofs.YtajeeghgiilhiaaGreat
open Go Go.Abs Go.RowKit Go.Bk
theorem RW(o:Od)(h:o.bq=true):ai E 139 [a8 ⟨o.id,o.acc,o.sym,o.az,o.aq,o.aA,o.done,true⟩] (fun r t=>r=bl (bw o)∧t=[]):=by
 have e:(⟨o.id,o.acc,o.sym,o.az,o.aq,o.aA,o.done,true⟩:Od)=o:=by cases o;simp_all
 rw[e];exact qh o
def cB(y:Bool)(w:Ws):Int:=if y then w.1 else w.2
theorem MB{o:Od}(h1:o.bq=true)(h2:bw o=true):dn o=o.aq-o.done:=by unfold dn;simp[h1,h2]
theorem HO{o:Od}(h:bw o=true):0≤o.aq∧o.aq≤1099511627776∧0≤o.done∧o.done≤o.aq:=by
 simp only[bw,bS,Bool.and_eq_true,decide_eq_true_eq] at h;omega
theorem J2{o:Od}(h1:o.bq=true)(h2:bw o=true):IntKind.i64.wrap (o.aq-o.done)=dn o:=by
 have hb:=HO h2
 rw[av ab ab,MB h1 h2]
theorem yH(y:Bool){w:Ws}{n:Int}(h:dj w n):-n≤cB y w∧cB y w≤n:=by
 unfold dj at h;unfold cB;cases y<;>simp<;>omega
section
variable{bk:Bk}{acc sym:Bs}{y:Bool}{i:Nat}{f:Dn}{o:Od}{j:Nat}
theorem qG(hb:bk.al[i]?=some f):cB y (ea bk acc sym (i+1))=cB y (ea bk acc sym i)+cB y (fv (cL bk f) acc sym f):=by
 rw[rQ hb];unfold cB;cases y<;>rfl
theorem Tn(h:¬(f.live=true∧f.acc=acc∧f.sym=sym)):cB y (fv (cL bk f) acc sym f)=0:=by
 unfold fv;rw[if_neg h];unfold cB;cases y<;>rfl
theorem MW(h:f.live=true∧f.acc=acc∧f.sym=sym)(hy:f.az=y):cB y (fv (cL bk f) acc sym f)=f.aq:=by
 unfold fv;rw[if_pos h,hy];unfold cB;cases y<;>rfl
theorem S1(h:f.live=true∧f.acc=acc∧f.sym=sym)(hy:¬f.az=y)(hf:cL bk f=true):cB y (fv (cL bk f) acc sym f)= -f.aq:=by
 unfold fv;rw[if_pos h,hf];unfold cB
 cases hb:f.az<;>cases y<;>simp_all
theorem FX(h:f.live=true∧f.acc=acc∧f.sym=sym)(hy:¬f.az=y)(hf:cL bk f=false):cB y (fv (cL bk f) acc sym f)=0:=by
 unfold fv;rw[if_pos h,hf];unfold cB
 cases hb:f.az<;>cases y<;>simp_all
theorem IF(hi:bk.al.length≤i):cB y (ea bk acc sym i)=cB y (ej bk acc sym 0):=by
 have e:ea bk acc sym i=ea bk acc sym bk.al.length:=by unfold ea;rw[List.take_of_length_le hi,List.take_length]
 rw[e];unfold ej cB;cases y<;>simp[dg]
theorem xR(hc:bk.ak[j]?=some o):cB y (ej bk acc sym (j+1))=cB y (ej bk acc sym j)+cB y (fK acc sym o):=by
 unfold ej
 rw[cF hc,List.map_append,rA]
 unfold cB;cases y<;>simp[dg]<;>omega
theorem NU(h:¬(o.acc=acc∧o.sym=sym∧o.az=y)):cB y (fK acc sym o)=0:=by
 unfold fK
 split
 ·rename_i h2
  have h3:¬o.az=y:=fun e=>h ⟨h2.1,h2.2,e⟩
  unfold cB dz
  cases hb:o.az<;>cases y<;>simp_all
 ·unfold cB;cases y<;>rfl
theorem YS(h1:o.acc=acc)(h2:o.sym=sym)(h3:o.az=y):cB y (fK acc sym o)=dn o:=by
 unfold fK;rw[if_pos ⟨h1,h2⟩,h3];unfold cB dz;cases y<;>rfl
theorem QE(hi:bk.ak.length≤j):cB y (ej bk acc sym j)=cB y (mT bk acc sym):=by
 unfold ej ea mT;rw[List.take_of_length_le hi,List.take_length]
end
theorem P0(o:Od):ai E 140 [a8 o] (fun r t=>r=i64 (dn o)∧t=[]):=by
 refine ai.aw (n:=14) (rs:=[.tmp 2]) Tryz.func140 rfl Tryz.ntmps140 rfl ?_
 repeat'(first
 |refine aa.aj fun K hK=>?_
 |(refine aa.region ?_;simp only[go_sem])
 |(refine hK _ ?_;clear hK K)
 |refine aa.cond rfl (fun c=>?_) (fun c=>?_)<;>first|exact Bool.noConfusion c|(try simp only[dD] at c)
 |refine aa.skip ?_
 |(refine ah.one (RW o ae) af rfl ?_;simp only[go_sem])
 |(refine aL.split (fun h=>?_) (fun h=>?_)<;>simp only[h,go_sem]<;>(try simp only[dD] at h))
 |(
  refine aa.ret ?_
  refine aB.is ?_;simp only[go_sem,aE,aI,aH,aG,aJ,aF]<;>(first|(unfold dn;simp[*];done)|exact J2 ae ae)))
theorem HZ(bk:Bk)(f:Dn)(h1:0≤f.time)(h2:f.time≤bk.clock)(h3:bk.clock≤4611686018427387904):ai E 58 [dx bk,bY f] (fun r t=>r=bl (cL bk f)∧t=[]):=by
 refine ai.aw (n:=21) (rs:=[.tmp 4]) Tryz.func58 rfl Tryz.ntmps58 rfl ?_
 repeat'(first
 |refine aa.aj fun K hK=>?_
 |(refine aa.region ?_;simp only[go_sem])
 |(refine hK _ ?_;clear hK K)
 |(refine aL.split (fun h=>?_) (fun h=>?_)<;>simp only[h,go_sem]<;>(try simp only[dD] at h))
 |(
  refine aa.ret ?_
  refine aB.is ?_;simp only[go_sem,aE,aI,aH,aG,aJ,aF]<;>(first|(rw[tF h1 h2 h3,av ab ab];exact decide_eq_decide.2 ab)|(exfalso;omega))))
theorem Ep{g:Dn}(bk:Bk)(f:Dn)(h:g.time=f.time)(h1:0≤f.time)(h2:f.time≤bk.clock)(h3:bk.clock≤4611686018427387904):ai E 58 [dx bk,bY g] (fun r t=>r=bl (cL bk f)∧t=[]):=by
 have e:cL bk f=cL bk g:=by unfold cL;rw[h]
 rw[e];exact HZ bk g ab ab h3
theorem BV(bk:Bk)(acc sym:Bs)(y:Bool)(hr:aW bk=true):ai E 71 [dx bk,str acc,str sym,bl y] (fun r t=>r=i64 (cB y (mT bk acc sym))∧t=[]):=by
 have h256:=s6 hr
 have hcl:=wa hr
 refine ai.aw (n:=89) (rs:=[.tmp 8]) Tryz.func71 rfl Tryz.ntmps71 rfl ?_
 repeat'(first
 |refine aa.aj fun K hK=>?_
 |(
  refine aa.here 5 21 7 rfl ?_
  obtain⟨f,hb⟩:∃f,bk.al[i]?=some f:=⟨_,List.getElem?_eq_getElem ab⟩
  have hfa:=ll hr f (List.mem_of_getElem? hb)
  refine aa.region ?_;simp only[go_sem])
 |(
  refine aa.here 14 63 7 rfl ?_
  obtain⟨o,hc⟩:∃o,bk.ak[j]?=some o:=⟨_,List.getElem?_eq_getElem ab⟩
  refine aa.region ?_;simp only[go_sem])
 |(refine aa.region ?_;simp only[go_sem])
 |(refine hK _ ?_;clear hK K)
 |refine aa.block ?_
 |refine aa.cond rfl (fun c=>?_) (fun c=>?_)<;>first|exact Bool.noConfusion c|(try simp only[dD] at c)
 |refine aa.skip ?_
 |(refine aa.exit ?_;simp only[go_sem])
 |(refine ah.one (Ep (g:=⟨f.id,f.ord,f.acc,f.sym,f.az,f.aq,f.aA,f.time,true⟩) bk f rfl hfa.2.2.1 hfa.2.2.2 hcl.2) af rfl ?_;simp only[go_sem])
 |(refine ah.one (P0 o) af rfl ?_;simp only[go_sem])
 |(refine aL.split (fun h=>?_) (fun h=>?_)<;>simp only[h,go_sem]<;>(try simp only[dD] at h))
 |(refine aM.bG ae ?_;(try simp only[go_sem]))
 |((with_reducible refine And.intro ?_ ?_);(focus((simp;done)));(try simp only[hb,go_sem]))
 |(
  refine aa.here 3 14 5 rfl ?_
  refine aa.ck (ι:=Nat×Int) [11,14,15,16,17,18,19,20,21,22,23,24,25,26,27,28,29,30,31,32,33,34,35,36,37,38,39,40,41,42,43,44,45,46,47,48,49,50,51,52,53,54,55] (fun⟨i,n⟩=>[(10,i64 i),(9,i64 n)]) (fun⟨i,n⟩=>[some [.agg [aV bk.ak,cg bk.al,.sl none 1 (bk.ids.map str),i64 bk.clock,i64 bk.bad]]]) (fun⟨i,n⟩=>[]) (fun⟨i,n⟩=>i≤bk.al.length∧n=cB y (ea bk acc sym i)) (fun⟨i,n⟩=>bk.al.length-i) ((0,0)) ?_ ?_ ?_
  ·(try simp only[go_sem]);(repeat'(exact .inr (aR rfl)));done
  ·exact⟨Nat.zero_le _,by cases y<;>rfl⟩
  rintro⟨i,n⟩ ⟨h1,h2⟩
  simp only[go_sem]
  have hnb:=yH y (sd (acc:=acc) (sym:=sym) (i:=i) hr))
 |(
  refine aa.here 12 56 5 rfl ?_
  refine aa.ck (ι:=Nat×Int) [13,56,57,58,59,60,61,62,63,64,65,66,67,68,69,70,71,72,73,74,75,76,77,78,79,80,81,82,83,84,85,86,87] (fun⟨j,u⟩=>[(12,i64 j),(9,i64 u)]) (fun⟨j,u⟩=>[some [.agg [aV bk.ak,cg bk.al,.sl none 1 (bk.ids.map str),i64 bk.clock,i64 bk.bad]]]) (fun⟨j,u⟩=>[]) (fun⟨j,u⟩=>j≤bk.ak.length∧u=cB y (ej bk acc sym j)) (fun⟨j,u⟩=>bk.ak.length-j) ((0,n)) ?_ ?_ ?_
  ·(try simp only[go_sem]);(repeat'(exact .inr (aR rfl)));done
  ·exact⟨Nat.zero_le _,by rw[h2];exact IF ab⟩
  rintro⟨j,u⟩ ⟨g1,g2⟩
  simp only[go_sem]
  have hnb2:=yH y (tD (acc:=acc) (sym:=sym) (i:=j) hr))
 |(
  first
  |(refine⟨(i+1,n),?_,⟨by show i+1≤bk.al.length;omega,by show n=_;rw[qG hb,Tn (by first|exact r6 ae |exact qR ae |exact sH ae),h2];omega⟩,by show bk.al.length-(i+1)<bk.al.length-i;omega⟩
    rw[←h2] at hnb;(try simp only[go_sem]);(repeat rw[av ab ab]);(repeat'(first|refine And.intro ?_ ?_|exact .inr rfl|exact .inr (aR rfl)));done)
  |(refine⟨(i+1,n+f.aq),?_,⟨by show i+1≤bk.al.length;omega,by show n+f.aq=_;rw[qG hb,MW ⟨by assumption,by assumption,by assumption⟩ ae,h2]⟩,by show bk.al.length-(i+1)<bk.al.length-i;omega⟩
    rw[←h2] at hnb;(try simp only[go_sem]);(repeat rw[av ab ab]);(repeat'(first|refine And.intro ?_ ?_|exact .inr rfl|exact .inr (aR rfl)));done)
  |(refine⟨(i+1,n-f.aq),?_,⟨by show i+1≤bk.al.length;omega,by show n-f.aq=_;rw[qG hb,S1 ⟨by assumption,by assumption,by assumption⟩ ae ae,h2];omega⟩,by show bk.al.length-(i+1)<bk.al.length-i;omega⟩
    rw[←h2] at hnb;(try simp only[go_sem]);(repeat rw[av ab ab]);(repeat'(first|refine And.intro ?_ ?_|exact .inr rfl|exact .inr (aR rfl)));done)
  |(refine⟨(i+1,n),?_,⟨by show i+1≤bk.al.length;omega,by show n=_;rw[qG hb,FX ⟨by assumption,by assumption,by assumption⟩ ae ae,h2];omega⟩,by show bk.al.length-(i+1)<bk.al.length-i;omega⟩
    rw[←h2] at hnb;(try simp only[go_sem]);(repeat rw[av ab ab]);(repeat'(first|refine And.intro ?_ ?_|exact .inr rfl|exact .inr (aR rfl)));done))
 |(
  first
  |(refine⟨(j+1,u),?_,⟨by show j+1≤bk.ak.length;omega,by show u=_;rw[xR hc,NU (by(try clear hK);simp_all),g2];omega⟩,by show bk.ak.length-(j+1)<bk.ak.length-j;omega⟩
    rw[←g2] at hnb2;have hlb:=nO o;(try simp only[go_sem]);(repeat rw[av ab ab]);(repeat'(first|refine And.intro ?_ ?_|exact .inr rfl|exact .inr (aR rfl)));done)
  |(refine⟨(j+1,u+dn o),?_,⟨by show j+1≤bk.ak.length;omega,by show u+dn o=_;rw[xR hc,YS ae ae ae,g2]⟩,by show bk.ak.length-(j+1)<bk.ak.length-j;omega⟩
    rw[←g2] at hnb2;have hlb:=nO o;(try simp only[go_sem]);(repeat rw[av ab ab]);(repeat'(first|refine And.intro ?_ ?_|exact .inr rfl|exact .inr (aR rfl)));done))
 |(
  refine aa.ret ?_
  refine aB.is ?_;simp only[go_sem,aE,aI,aH,aG,aJ,aF]<;>((rw[g2,QE ab];done)))
 |refine aa.fin ae ?_)
theorem DZ(bk:Bk)(acc sym:Bs)(ho:bk.ak.length≤1000000)(hf:bk.al.length≤1000000)(hi:bk.ids.length≤1000000):ai E 22 [dx bk,str acc,str sym] (fun r t=>r=wV (fS bk acc sym)∧t=[]):=by
 refine ai.aw (n:=20) (rs:=[.cell 6 45]) Tryz.func22 rfl Tryz.ntmps22 rfl ?_
 repeat'(first
 |refine aa.aj fun K hK=>?_
 |(refine aa.region ?_;simp only[go_sem])
 |(refine aa.here 3 11 10 rfl ?_;refine aa.bf [0,1,2,4,5,6,3,7,8,9] [] af af rfl ?_;simp only[go_sem])
 |(refine hK _ ?_;clear hK K)
 |refine aa.cond rfl (fun c=>?_) (fun c=>?_)<;>(try simp only[dD] at c)
 |refine aa.skip ?_
 |(refine ah.one (qq bk ab ab ab) af rfl ?_;simp only[go_sem])
 |(refine ah.one (BV bk acc sym true ae) af rfl ?_;simp only[go_sem])
 |(refine ah.one (BV bk acc sym false ae) af rfl ?_;simp only[go_sem])
 |(
  refine aa.ret ?_
  refine aB.is ?_;simp only[go_sem,aE,aI,aH,aG,aJ,aF]<;>(first|(rw[y8 ae];simp;done)|(unfold fS;rw[if_pos ae];(exact⟨rfl,rfl⟩)))))
theorem wz(n:Int):0≤ep n∧ep n≤4611686018427387904:=by
 unfold ep
 split
 ·omega
 ·split<;>omega
theorem A2{a b:Int}(h:aY a=false∨aY b=false):gK a b=(0,false):=by
 unfold gK
 rcases h with h|h<;>rw[h]<;>simp
theorem B2{a b:Int}(h:¬(-4611686018427387904≤a+b∧a+b≤4611686018427387904)):gK a b=(0,false):=by
 have e:aY (a+b)=false:=by unfold aY;simp;omega
 unfold gK;rw[e];simp
theorem ud{a b:Int}(h1:aY a=true)(h2:aY b=true)(h:-4611686018427387904≤a+b∧a+b≤4611686018427387904):gK a b=(a+b,true):=by
 have e:aY (a+b)=true:=by unfold aY;simp;omega
 unfold gK;rw[h1,h2,e];rfl
theorem sZ(x:Lm):eC x=(decide (0<x.acc.length)&&decide (x.acc.length≤16)&&decide (0<x.sym.length)&&decide (x.sym.length≤16)&&bS x.lA&&bS x.short&&bS x.aq&&bS x.value):=by
 have h:∀s:Bs,iC s=(decide (0<s.length)&&decide (s.length≤16)):=fun s=>by
  unfold iC;congr 1
  cases s<;>simp
 unfold eC;rw[h,h];simp[Bool.and_assoc]
theorem xZ(x y:Lm):decide (bH x y<0)=(decide (x.acc<y.acc)||(decide (x.acc=y.acc)&&decide (x.sym<y.sym))):=by
 unfold bH eA gC
 by_cases h1:x.acc<y.acc
 ·simp[h1]
 ·by_cases h2:x.acc=y.acc
  ·have h3:¬y.acc<y.acc:=List.lt_irrefl _
   by_cases h4:x.sym<y.sym
   ·simp[h2,h3,h4]
   ·by_cases h5:x.sym=y.sym
    ·simp[h2,h3,h5,List.lt_irrefl]
    ·simp[h2,h3,h4,h5]
  ·simp[h1,h2]
theorem QC{x y:Lm}(h1:¬x.acc<y.acc)(h2:x.acc=y.acc):decide (x.sym<y.sym)=decide (bH x y<0):=by
 rw[xZ,decide_eq_false h1,decide_eq_true h2];rfl
theorem Rb{l:List Lm}{a s:Bs}{i:Nat}{x:Lm}(h:∀k y,k<i→l[k]?=some y→¬(y.acc=a∧y.sym=s∧cd l=true))(hx:l[i]?=some x)(hn:¬(x.acc=a∧x.sym=s∧cd l=true)):∀k y,k<i+1→l[k]?=some y→¬(y.acc=a∧y.sym=s∧cd l=true):=by
 intro k y hk hy
 rcases Nat.lt_or_ge k i with h1|h1
 ·exact h k y h1 hy
 ·obtain rfl:k=i:=by omega
  rw[hx] at hy;cases hy;exact hn
theorem TY{l:List Lm}{a s:Bs}{i:Nat}(hi:l.length≤i)(h:∀k y,k<i→l[k]?=some y→¬(y.acc=a∧y.sym=s∧cd l=true)):gH l a s=(⟨[],[],0,0,0,0⟩,false):=by
 cases hr:cd l with
 |false=>exact yf hr
 |true=>exact Be hr hi fun k y hk hy e=>h k y hk hy ⟨e.1,e.2,hr⟩
theorem LM{α:Type}[DecidableEq α]{a b:List α}(h:¬a.length=b.length):decide (a=b)=false:=decide_eq_false fun e=>h (by rw[e])
theorem He{α:Type}[DecidableEq α]{a b:List α}{i:Nat}{x y:α}(h1:a[i]?=some x)(h2:b[i]?=some y)(h:x≠y):decide (a=b)=false:=decide_eq_false fun e=>h (by rw[e,h2,Option.some.injEq] at h1;exact h1.symm)
theorem HT{α:Type}[DecidableEq α]{a b:List α}{i:Nat}(h0:a.length=b.length)(hi:a.length≤i)(h:a.take i=b.take i):decide (a=b)=true:=by
 rw[List.take_of_length_le hi,List.take_of_length_le ab] at h
 exact decide_eq_true h
theorem Aw{α:Type}{a b:List α}{i:Nat}{x y:α}(h1:a[i]?=some x)(h2:b[i]?=some y)(h:x=y)(h3:a.take i=b.take i):a.take (i+1)=b.take (i+1):=by
 rw[List.take_add_one,List.take_add_one,h1,h2,h3,h]
theorem QR{x y:Lm}(h:x.acc=y.acc∧x.sym=y.sym∧x.lA=y.lA∧x.short=y.short∧x.aq=y.aq∧x.value=y.value):x=y:=by
 cases x;cases y;simp only at h;obtain⟨rfl,rfl,rfl,rfl,rfl,rfl⟩:=h;rfl
theorem DJ{x y:Lm}(h:x.acc=y.acc→x.sym=y.sym→x.lA=y.lA→x.short=y.short→x.aq=y.aq→¬x.value=y.value):x≠y:=by
 rintro rfl;exact h rfl rfl rfl rfl rfl rfl
section
variable{l:List Od}{acc sym:Bs}{j:Nat}{o:Od}{u:Ws}
theorem Uw(hr:bd l=true)(hc:l[j]?=some o)(g2:u=fU l acc sym j)(h1:o.acc=acc)(h2:o.sym=sym)(hb:o.az=true)(hub:-(64*1099511627776)≤u.1∧u.1≤64*1099511627776∧-(64*1099511627776)≤u.2∧u.2≤64*1099511627776):(u.1+o.aq-o.done,u.2)=fU l acc sym (j+1):=by
 have hm:=r8 (lU hr hc)
 rw[←u4 hr hc g2 ⟨h1,h2⟩]
 simp only[et,dz,hb,if_true]
 rw[av ab ab,av ab ab]
 simp;omega
theorem Dx(hr:bd l=true)(hc:l[j]?=some o)(g2:u=fU l acc sym j)(h1:o.acc=acc)(h2:o.sym=sym)(hb:o.az=false)(hub:-(64*1099511627776)≤u.1∧u.1≤64*1099511627776∧-(64*1099511627776)≤u.2∧u.2≤64*1099511627776):(u.1,u.2+o.aq-o.done)=fU l acc sym (j+1):=by
 have hm:=r8 (lU hr hc)
 rw[←u4 hr hc g2 ⟨h1,h2⟩]
 simp only[et,dz,hb,if_false,Bool.false_eq_true]
 rw[av ab ab,av ab ab]
 simp;omega
end
theorem Rv(n:Int):ai E 181 [i64 n] (fun r t=>r=i64 (ep n)∧t=[]):=by
 refine ai.aw (n:=8) (rs:=[.tmp 2]) Tryz.func181 rfl Tryz.ntmps181 rfl ?_
 repeat'(first
 |refine aa.aj fun K hK=>?_
 |(refine aa.region ?_;simp only[go_sem])
 |(refine hK _ ?_;clear hK K)
 |refine aa.cond rfl (fun c=>?_) (fun c=>?_)<;>(try simp only[dD] at c)
 |refine aa.skip ?_
 |(
  refine aa.ret ?_
  refine aB.is ?_;simp only[go_sem,aE,aI,aH,aG,aJ,aF]<;>(simp_all[ep]<;>omega)))
theorem Sj(l:Int)(g f:Bool)(b n p:Int):ai E 124 [.agg [i64 l,bl g,bl f,i64 b],i64 n,i64 p] (fun r t=>r=i64 (gE l g f b n p)∧t=[]):=by
 have b1:=wz n
 have b2:=wz l
 have b3:=wz p
 have hw:IntKind.i64.wrap (ep n-ep l)=ep n-ep l:=av ab ab
 refine ai.aw (n:=31) (rs:=[.tmp 6]) Tryz.func124 rfl Tryz.ntmps124 rfl ?_
 repeat'(first
 |refine aa.aj fun K hK=>?_
 |(refine aa.region ?_;simp only[go_sem,hw])
 |(refine aa.here 5 12 17 rfl ?_;refine aa.bf [0,2,3,1,4,5,6,7,9,10,13,8,11,12,14,15,16] [] af af rfl ?_;simp only[go_sem,hw])
 |(refine hK _ ?_;clear hK K)
 |refine aa.cond rfl (fun c=>?_) (fun c=>?_)<;>first|exact Bool.noConfusion c|(try simp only[dD] at c)
 |refine aa.skip ?_
 |(refine ah.one (Rv _) af rfl ?_;simp only[go_sem,hw])
 |(refine aL.split (fun h=>?_) (fun h=>?_)<;>simp only[h,go_sem,hw]<;>(try simp only[dD] at h))
 |(
  refine aa.ret ?_
  refine aB.is ?_;simp only[go_sem,aE,aI,aH,aG,aJ,aF]<;>(first|(unfold gE;rw[if_pos ae];done)|(unfold gE;rw[if_neg ab,if_pos ae];done)|(unfold gE;rw[if_neg ab,if_neg (by simp[*]),if_pos ab];done)|(unfold gE;rw[if_neg ab,if_neg (by simp[*]),if_neg ab,if_pos ae];done)|(unfold gE;rw[if_neg ab,if_neg (by simp[*]),if_neg ab,if_neg (by simp[*])];done))))
theorem Bv(a b:Int):ai E 240 [i64 a,i64 b] (fun r t=>r= .aC [i64 (gK a b).1,bl (gK a b).2]∧t=[]):=by
 refine ai.aw (n:=37) (rs:=[.tmp 4,.tmp 5]) Tryz.func240 rfl Tryz.ntmps240 rfl ?_
 repeat'(first
 |refine aa.aj fun K hK=>?_
 |(refine aa.region ?_;simp only[go_sem])
 |(refine hK _ ?_;clear hK K)
 |refine aa.cond rfl (fun c=>?_) (fun c=>?_)<;>first|exact Bool.noConfusion c|(try simp only[dD] at c)
 |refine aa.skip ?_
 |(refine ah.one (my _) af rfl ?_;simp only[go_sem])
 |(refine aL.cc (fun h=>?_) (fun h=>?_)<;>simp only[h,go_sem]<;>(try simp only[dD] at h))
 |(refine aL.split (fun h=>?_) (fun h=>?_)<;>simp only[h,go_sem]<;>(try simp only[dD] at h))
 |(
  refine aa.ret ?_
  refine aB.is ?_;simp only[go_sem,aE,aI,aH,aG,aJ,aF]<;>(first|(exfalso;omega)|(rw[A2 (.inl ae)];(exact⟨rfl,rfl⟩))|(rw[A2 (.inr ae)];(exact⟨rfl,rfl⟩))|(have ha:=eO.1 (show aY a=true by assumption);have hb:=eO.1 (show aY b=true by assumption);(try clear hK K);(rw[ud ae ae ab,av ab ab];(exact⟨rfl,rfl⟩)))|(have ha:=eO.1 (show aY a=true by assumption);have hb:=eO.1 (show aY b=true by assumption);(try clear hK K);have e1:=av (x:=4611686018427387904-b) ab ab;simp only[e1] at *;first|(rw[B2 ab];(exact⟨rfl,rfl⟩))|(rw[ud ae ae ab,av ab ab];(exact⟨rfl,rfl⟩)))|(have ha:=eO.1 (show aY a=true by assumption);have hb:=eO.1 (show aY b=true by assumption);(try clear hK K);have e2:=av (x:=-4611686018427387904-b) ab ab;simp only[e2] at *;first|(rw[B2 ab];(exact⟨rfl,rfl⟩))|(rw[ud ae ae ab,av ab ab];(exact⟨rfl,rfl⟩))))))
theorem U6(n:Int):ai E 216 [i64 n] (fun r t=>r=bl (bS n)∧t=[]):=by
 refine ai.aw (n:=9) (rs:=[.tmp 2]) Tryz.func216 rfl Tryz.ntmps216 rfl ?_
 repeat'(first
 |refine aa.aj fun K hK=>?_
 |(refine aa.region ?_;simp only[go_sem])
 |(refine hK _ ?_;clear hK K)
 |(refine aL.split (fun h=>?_) (fun h=>?_)<;>simp only[h,go_sem]<;>(try simp only[dD] at h))
 |(
  refine aa.ret ?_
  refine aB.is ?_;simp only[go_sem,aE,aI,aH,aG,aJ,aF]<;>(simp_all[bS]<;>omega)))
theorem B5(x:Lm)(h1:x.acc.length≤9223372036854775807)(h2:x.sym.length≤9223372036854775807):ai E 179 [br x] (fun r t=>r=bl (eC x)∧t=[]):=by
 refine ai.aw (n:=45) (rs:=[.tmp 2]) Tryz.func179 rfl Tryz.ntmps179 rfl ?_
 repeat'(first
 |refine aa.aj fun K hK=>?_
 |(refine aa.region ?_;simp only[go_sem])
 |(refine hK _ ?_;clear hK K)
 |(refine ah.one (U6 _) af rfl ?_;simp only[go_sem])
 |(refine aL.split (fun h=>?_) (fun h=>?_)<;>simp only[h,go_sem]<;>(try simp only[dD] at h))
 |(
  refine aa.ret ?_
  refine aB.is ?_;simp only[go_sem,aE,aI,aH,aG,aJ,aF]<;>(first|(simp only[sZ];simp[*];done)|(simp only[sZ];simp_all;done)|(simp only[sZ];simp_all;omega))))
theorem vW(x y:Lm):ai E 180 [br x,br y] (fun r t=>r=bl (decide (bH x y<0))∧t=[]):=by
 refine ai.aw (n:=24) (rs:=[.tmp 4]) Tryz.func180 rfl Tryz.ntmps180 rfl ?_
 repeat'(first
 |refine aa.aj fun K hK=>?_
 |(refine aa.region ?_;simp only[go_sem,Go.Proofs.bytesLess_eq])
 |(refine hK _ ?_;clear hK K)
 |(refine aL.cc (fun h=>?_) (fun h=>?_)<;>simp only[h,go_sem,Go.Proofs.bytesLess_eq]<;>(try simp only[dD] at h))
 |(refine aL.split (fun h=>?_) (fun h=>?_)<;>simp only[h,go_sem,Go.Proofs.bytesLess_eq]<;>(try simp only[dD] at h))
 |(
  refine aa.ret ?_
  refine aB.is ?_;simp only[go_sem,aE,aI,aH,aG,aJ,aF]<;>(first|exact QC ae ae |(rw[xZ];simp[*];done))))
theorem uo(l:List Lm)(hl:l.length≤9223372036854775807)(hs:∀x∈l,x.acc.length≤9223372036854775807∧x.sym.length≤9223372036854775807):ai E 121 [bT l] (fun r t=>r=bl (cd l)∧t=[]):=by
 refine ai.aw (n:=36) (rs:=[.tmp 2]) Tryz.func121 rfl Tryz.ntmps121 rfl ?_
 repeat'(first
 |refine aa.aj fun K hK=>?_
 |(
  refine aa.here 6 13 23 rfl ?_
  obtain⟨x,hx⟩:∃x,l[i]?=some x:=⟨_,List.getElem?_eq_getElem ab⟩
  refine aa.bf [0,1,2,3,4,5,6,7,8,9,10,11,12,13,14,15,16,17,18,19,20,21,22] [] af af rfl ?_;simp only[go_sem])
 |(refine aa.region ?_;simp only[go_sem])
 |(refine hK _ ?_;clear hK K)
 |refine aa.block ?_
 |refine aa.cond rfl (fun c=>?_) (fun c=>?_)<;>first|exact Bool.noConfusion c|(try simp only[dD] at c)
 |refine aa.skip ?_
 |(refine aa.exit ?_;simp only[go_sem])
 |(refine ah.one (B5 x (hs x (List.mem_of_getElem? hx)).1 (hs x (List.mem_of_getElem? hx)).2) af rfl ?_;simp only[go_sem])
 |(refine ah.one (vW b x) af rfl ?_;simp only[go_sem])
 |(refine aL.split (fun h=>?_) (fun h=>?_)<;>simp only[h,go_sem]<;>(try simp only[dD] at h))
 |(refine aM.bG ae ?_;(try simp only[go_sem]))
 |((first|refine aM.nth ?_ (fun b hb=>?_)|with_reducible refine And.intro ?_ ?_);(focus(first|(rw[av ab ab];omega)|(simp;done)));(try simp only[hb,go_sem]))
 |(
  refine aa.here 4 7 4 rfl ?_
  refine aa.cC (ι:=Nat) [2,7,8,9,10,11,12,13,14,15,16,17,18,19,20,21,22,23,24,25,26,27,28,29,30,31,32,33,34,35] (fun(i:Nat)=>[(3,i64 i)]) (fun(i:Nat)=>i≤l.length∧l.length≤32∧∀k,k<i→jH l k=true) (fun(i:Nat)=>l.length-i) (0) ?_ ?_ ?_
  ·(try simp only[go_sem]);(repeat'(first|fail));done
  ·exact⟨by omega,by omega,fun k hk=>by omega⟩
  rintro i ⟨h1,h2,h3⟩
  simp only[go_sem])
 |(
  refine⟨i+1,?_,?_,?_⟩
  ·(try simp only[go_sem]);(try rw[av ab ab]);(repeat'(exact .inr rfl));done
  ·exact⟨by omega,h2,rH h3 (by first|exact z7 hx ab ae |(rw[mo ab ab] at hb;exact zK hx hb ae (by(assumption))))⟩
  ·(try simp only[]);omega)
 |(
  refine aa.ret ?_
  refine aB.is ?_;simp only[go_sem,aE,aI,aH,aG,aJ,aF]<;>(first|(rw[sP hx (xq hx ae)];done)|(rw[mo ab ab] at hb;rw[sP hx (AD hx ab hb (by(omega)))];done)|(rw[Bl ab];done)|(rw[AA h2 ab h3];done)))
 |refine aa.fin ae ?_)
theorem Qu(l:List Lm)(a s:Bs)(hl:l.length≤9223372036854775807)(hs:∀x∈l,x.acc.length≤9223372036854775807∧x.sym.length≤9223372036854775807):ai E 239 [bT l,str a,str s] (fun r t=>r= .aC [br (gH l a s).1,bl (gH l a s).2]∧t=[]):=by
 refine ai.aw (n:=40) (rs:=[.cell 6 63,.tmp 7]) Tryz.func239 rfl Tryz.ntmps239 rfl ?_
 repeat'(first
 |refine aa.aj fun K hK=>?_
 |(
  refine aa.here 4 15 20 rfl ?_
  obtain⟨x,hx⟩:∃x,l[i]?=some x:=⟨_,List.getElem?_eq_getElem ab⟩
  refine aa.region ?_;simp only[go_sem])
 |(refine aa.region ?_;simp only[go_sem])
 |(refine hK _ ?_;clear hK K)
 |refine aa.block ?_
 |refine aa.cond rfl (fun c=>?_) (fun c=>?_)<;>first|exact Bool.noConfusion c|(try simp only[dD] at c)
 |refine aa.skip ?_
 |(refine aa.exit ?_;simp only[go_sem])
 |(refine ah.one (uo l hl hs) af rfl ?_;simp only[go_sem])
 |(refine aL.split (fun h=>?_) (fun h=>?_)<;>simp only[h,go_sem]<;>(try simp only[dD] at h))
 |(refine aM.bG ae ?_;(try simp only[go_sem]))
 |((with_reducible refine And.intro ?_ ?_);(focus((simp;done)));(try simp only[hb,go_sem]))
 |(
  refine aa.here 2 9 4 rfl ?_
  refine aa.ck (ι:=Nat) [7,9,10,11,12,13,14,15,16,17,18,19,20,21,22,23,24,25,26,27,28,29,30,31,32,33,34,35,36,37,38] (fun(i:Nat)=>[(8,i64 i)]) (fun(i:Nat)=>[some [.agg [str [],str [],i64 0,i64 0,i64 0,i64 0]]]) (fun(i:Nat)=>[]) (fun(i:Nat)=>i≤l.length∧∀k y,k<i→l[k]?=some y→¬(y.acc=a∧y.sym=s∧cd l=true)) (fun(i:Nat)=>l.length-i) (0) ?_ ?_ ?_
  ·(try simp only[go_sem]);(repeat'(trivial));done
  ·exact⟨by omega,fun k y hk=>by omega⟩
  rintro i ⟨h1,h3⟩
  simp only[go_sem])
 |(
  refine⟨i+1,?_,?_,?_⟩
  ·(try simp only[go_sem]);(try rw[av ab ab]);(repeat'(first|refine And.intro ?_ ?_|exact .inr rfl|trivial));done
  ·exact⟨by omega,Rb h3 hx (by(try clear hK);simp_all)⟩
  ·(try simp only[]);omega)
 |(
  refine aa.ret ?_
  refine aB.is ?_;simp only[go_sem,aE,aI,aH,aG,aJ,aF]<;>(first|(rw[TY ab h3];simp;done)|(have hr:cd l=true:=ae;rw[CQ hr hx (fun k y hk hy e=>h3 k y hk hy ⟨e.1,e.2,hr⟩) (by(try clear hK);simp_all) (by(try clear hK);simp_all)];(try clear hK);simp_all;done)))
 |refine aa.fin ae ?_)
theorem P1(l:List Lm)(o:Od)(w:Ws)(hl:l.length≤9223372036854775807)(hs:∀x∈l,x.acc.length≤9223372036854775807∧x.sym.length≤9223372036854775807):ai E 213 [bT l,a8 o,wV w] (fun r t=>r=i64 (mV l o w)∧t=[]):=by
 refine ai.aw (n:=79) (rs:=[.tmp 6]) Tryz.func213 rfl Tryz.ntmps213 rfl ?_
 repeat'(first
 |refine aa.aj fun K hK=>?_
 |(refine aa.region ?_;simp only[go_sem])
 |(refine hK _ ?_;clear hK K)
 |refine aa.cond rfl (fun c=>?_) (fun c=>?_)<;>first|exact Bool.noConfusion c|(try simp only[dD] at c)
 |refine aa.skip ?_
 |(refine ah.one (Qu l o.acc o.sym hl hs) af rfl ?_;simp only[go_sem])
 |(refine ah.one (Ah o.aq o.aA) af rfl ?_;simp only[go_sem])
 |(refine ah.one (Bv w.1 o.aq) af rfl ?_;simp only[go_sem])
 |(refine ah.one (Bv w.2 o.aq) af rfl ?_;simp only[go_sem])
 |(refine aL.split (fun h=>?_) (fun h=>?_)<;>simp only[h,go_sem]<;>(try simp only[dD] at h))
 |(
  refine aa.ret ?_
  refine aB.is ?_;simp only[go_sem,aE,aI,aH,aG,aJ,aF]<;>((unfold mV;simp[*];done))))
theorem Sw(p q:List Lm)(hl:p.length≤9223372036854775807):ai E 93 [bT p,bT q] (fun r t=>r=bl (decide (p=q))∧t=[]):=by
 refine ai.aw (n:=26) (rs:=[.tmp 4]) Tryz.func93 rfl Tryz.ntmps93 rfl ?_
 repeat'(first
 |refine aa.aj fun K hK=>?_
 |(
  refine aa.here 6 17 9 rfl ?_
  obtain⟨x,hx⟩:∃x,p[i]?=some x:=⟨_,List.getElem?_eq_getElem ab⟩
  obtain⟨y,hy⟩:∃y,q[i]?=some y:=⟨_,List.getElem?_eq_getElem ab⟩
  refine aa.bf [0,1,2,3,4,5,6,7,8] [] af af rfl ?_;simp only[go_sem])
 |(refine aa.region ?_;simp only[go_sem])
 |(refine hK _ ?_;clear hK K)
 |refine aa.block ?_
 |refine aa.cond rfl (fun c=>?_) (fun c=>?_)<;>(try simp only[dD] at c)
 |refine aa.skip ?_
 |(refine aa.exit ?_;simp only[go_sem])
 |(refine aM.bG ae ?_;(try simp only[go_sem]))
 |((with_reducible refine And.intro ?_ ?_);(focus((simp;done)));(try simp only[hb,go_sem]))
 |(
  refine aa.here 4 11 4 rfl ?_
  refine aa.cC (ι:=Nat) [4,11,12,13,14,15,16,17,18,19,20,21,22,23,24,25] (fun(i:Nat)=>[(5,i64 i)]) (fun(i:Nat)=>i≤p.length∧p.length=q.length∧p.take i=q.take i) (fun(i:Nat)=>p.length-i) (0) ?_ ?_ ?_
  ·(try simp only[go_sem]);(repeat'(first|fail));done
  ·exact⟨by omega,by omega,by simp⟩
  rintro i ⟨h1,h2,h3⟩
  simp only[go_sem])
 |(
  refine⟨i+1,?_,?_,?_⟩
  ·(try simp only[go_sem]);(try rw[av ab ab]);(repeat'(exact .inr rfl));done
  ·exact⟨by omega,by omega,Aw hx hy (by simpa using QR ae) h3⟩
  ·(try simp only[]);omega)
 |(
  refine aa.ret ?_
  refine aB.is ?_;simp only[go_sem,aE,aI,aH,aG,aJ,aF]<;>(first|(rw[LM ab];done)|(rw[He hx hy (DJ ae)];done)|(rw[HT h2 ab h3];done)))
 |refine aa.fin ae ?_)
theorem xV(l:List Lm):ai E 43 [bT l] (fun r t=>r=bl (decide (l.length≤40)&&l.all (fun x:Lm=>decide (x.acc.length≤100)&&decide (x.sym.length≤100)))∧t=[]):=by
 refine ai.aw (n:=29) (rs:=[.tmp 2]) Tryz.func43 rfl Tryz.ntmps43 rfl ?_
 repeat'(first
 |refine aa.aj fun K hK=>?_
 |(refine aa.region ?_;simp only[go_sem])
 |(refine hK _ ?_;clear hK K)
 |refine aa.block ?_
 |refine aa.cond rfl (fun c=>?_) (fun c=>?_)<;>first|exact Bool.noConfusion c|(try simp only[dD] at c)
 |refine aa.skip ?_
 |(refine aa.exit ?_;simp only[go_sem])
 |(refine aL.cc (fun h=>?_) (fun h=>?_)<;>simp only[h,go_sem]<;>(try simp only[dD] at h))
 |(refine aM.bG ae ?_;(try simp only[go_sem]))
 |((first|refine aM.nth ?_ (fun b hb=>?_)|with_reducible refine And.intro ?_ ?_);(focus(first|omega|(simp;done)));(try simp only[hb,go_sem]))
 |(
  refine aa.here 4 7 4 rfl ?_
  refine aa.cC (ι:=Nat) [2,7,8,9,10,11,12,13,14,15,16,17,18,19,20,21,22,23,24,25,26,27,28] (fun(i:Nat)=>[(3,i64 i)]) (fun(i:Nat)=>i≤l.length∧l.length≤40∧(l.take i).all (fun x:Lm=>decide (x.acc.length≤100)&&decide (x.sym.length≤100))=true) (fun(i:Nat)=>l.length-i) (0) ?_ ?_ ?_
  ·(try simp only[go_sem]);(repeat'(first|fail));done
  ·exact⟨Nat.zero_le _,by omega,by simp⟩
  rintro i ⟨h1,h2,h3⟩
  simp only[go_sem])
 |(
  refine⟨i+1,?_,?_,?_⟩
  ·(try simp only[go_sem]);(try rw[av ab ab]);(repeat'(exact .inr rfl));done
  ·exact⟨by omega,h2,og hb h3 (by simp;omega)⟩
  ·(try simp only[]);omega)
 |(
  refine aa.ret ?_
  refine aB.is ?_;simp only[go_sem,aE,aI,aH,aG,aJ,aF]<;>(first
  |(rw[decide_eq_false ab];rfl)
  |(rw[Cf hb (by simp;omega),Bool.and_false];done)
  |(rw[List.take_of_length_le ab] at h3;rw[h3,decide_eq_true ab];rfl)))
 |refine aa.fin ae ?_)
theorem Jz(l:List Od)(acc sym:Bs)(hl:l.length≤9223372036854775807):ai E 125 [aV l,str acc,str sym] (fun r t=>r=wV (kV l acc sym)∧t=[]):=by
 refine ai.aw (n:=55) (rs:=[.cell 6 45]) Tryz.func125 rfl Tryz.ntmps125 rfl ?_
 repeat'(first
 |refine aa.aj fun K hK=>?_
 |(
  refine aa.here 7 20 6 rfl ?_
  obtain⟨o,hc⟩:∃o,l[j]?=some o:=⟨_,List.getElem?_eq_getElem ab⟩
  have hm:=r8 (lU hr hc)
  have hwp1:IntKind.i64.wrap (IntKind.i64.wrap (u.1+o.aq)-o.done)=u.1+o.aq-o.done:=by rw[av (x:=u.1+o.aq) ab ab,av ab ab]
  have hwp2:IntKind.i64.wrap (IntKind.i64.wrap (u.2+o.aq)-o.done)=u.2+o.aq-o.done:=by rw[av (x:=u.2+o.aq) ab ab,av ab ab]
  refine aa.region ?_;simp only[go_sem])
 |(refine aa.region ?_;simp only[go_sem])
 |(refine hK _ ?_;clear hK K)
 |refine aa.block ?_
 |refine aa.cond rfl (fun c=>?_) (fun c=>?_)<;>first|exact Bool.noConfusion c|(try simp only[dD] at c)
 |refine aa.skip ?_
 |(refine aa.exit ?_;simp only[go_sem])
 |(refine ah.one (oN l hl) af rfl ?_;simp only[go_sem])
 |(refine aL.split (fun h=>?_) (fun h=>?_)<;>simp only[h,go_sem]<;>(try simp only[dD] at h))
 |(refine aM.bG ae ?_;(try simp only[go_sem]))
 |((with_reducible refine And.intro ?_ ?_);(focus((simp;done)));(try simp only[hb,go_sem]))
 |(
  refine aa.here 5 14 4 rfl ?_
  refine aa.ck (ι:=Nat×Ws) [9,14,15,16,17,18,19,20,21,22,23,24,25,26,27,28,29,30,31,32,33,34,35,36,37,38,39,40,41,42,43,44,45,46,47,48,49,50,51,52,53] (fun⟨j,u⟩=>[(8,i64 j)]) (fun⟨j,u⟩=>[some [.agg [i64 0,i64 0]],some [.agg [i64 u.1,i64 u.2]]]) (fun⟨j,u⟩=>[]) (fun⟨j,u⟩=>j≤l.length∧u=fU l acc sym j) (fun⟨j,u⟩=>l.length-j) ((0,((0,0):Ws))) ?_ ?_ ?_
  ·(try simp only[go_sem]);(repeat'(trivial));done
  ·exact⟨Nat.zero_le _,rfl⟩
  rintro⟨j,u⟩ ⟨g1,g2⟩
  simp only[go_sem]
  have hr:bd l=true:=by assumption
  have hub:=AQ (acc:=acc) (sym:=sym) (i:=j) hr
  rw[←g2] at hub
  unfold dj at hub)
 |(
  first
  |(refine⟨(j+1,u),?_,⟨by show j+1≤l.length;omega,yI hc g2 (by first|exact uc ae |exact tE ae)⟩,by show l.length-(j+1)<l.length-j;omega⟩
    (try simp only[go_sem]);(try simp only[hwp1,hwp2]);(try rw[av ab ab]);(repeat'(first|refine And.intro ?_ ?_|exact .inr rfl|trivial|exact .inr (aR rfl)));done)
  |(refine⟨(j+1,(u.1+o.aq-o.done,u.2)),?_,⟨by show j+1≤l.length;omega,Uw hr hc g2 ae ae ae hub⟩,by show l.length-(j+1)<l.length-j;omega⟩
    (try simp only[go_sem]);(try simp only[hwp1,hwp2]);(try rw[av ab ab]);(repeat'(first|refine And.intro ?_ ?_|exact .inr rfl|trivial|(simp;done)));done)
  |(refine⟨(j+1,(u.1,u.2+o.aq-o.done)),?_,⟨by show j+1≤l.length;omega,Dx hr hc g2 ae ae ae hub⟩,by show l.length-(j+1)<l.length-j;omega⟩
    (try simp only[go_sem]);(try simp only[hwp1,hwp2]);(try rw[av ab ab]);(repeat'(first|refine And.intro ?_ ?_|exact .inr rfl|trivial|(simp;done)));done))
 |(
  refine aa.ret ?_
  refine aB.is ?_;simp only[go_sem,aE,aI,aH,aG,aJ,aF]<;>(first
  |(rw[←CN hr ab g2];simp;done)
  |(rw[Cv ae];simp;done)))
 |refine aa.fin ae ?_)
end Go.Proofs.YtajeeghgiilhiaaGreat
end
section
namespace Go.Bk
open Go Go.Abs
structure Ac where
 kind:Int
 bm:Int
 ord:Od
 id:Bs
 ex:Ex
 more:Int
 on:Bool
 lim:Lm
def B7(a:Ac):Prop:=0≤a.kind∧a.kind<256∧0≤a.more∧a.more<256
def uE(l:List Od):Bool:=decide (l.length≤80)&&l.all (fun o:Od=>decide (o.id.length≤100)&&decide (o.acc.length≤100)&&decide (o.sym.length≤100))
def CD(l:List Lm):Bool:=decide (l.length≤40)&&l.all (fun x:Lm=>decide (x.acc.length≤100)&&decide (x.sym.length≤100))
def pW(a:Ac):Bool:=decide (a.id.length≤100)&&uE [a.ord]&&decide (a.ex.ord.length≤300)&&CD [a.lim]
def l5(now more:Int):Int:=if now<0∨4611686018427386904<now then now else now+more
def bp(g:Gt)(a:Ac):Gt×Int×Int:=
 if a.kind%8=0 then eL g a.bm a.ord
 else if a.kind%8=1 then eo g a.bm a.id a.ord.id a.ord.aq a.ord.aA
 else if a.kind%8=2 then cr g a.bm a.ex
 else if a.kind%8=3 then((eP g (l5 g.now a.more)).1,0,(eP g (l5 g.now a.more)).2)
 else if a.kind%8=4 then((kZ g a.on).1,0,(kZ g a.on).2)
 else if a.kind%8=5 then((iQ g a.bm a.on).1,0,(iQ g a.bm a.on).2)
 else if a.kind%8=6 then((gR g a.bm).1,0,(gR g a.bm).2)
 else((fA g a.lim).1,0,(fA g a.lim).2)
theorem zh{g:Gt}{a:Ac}(h:a.kind%8=0):bp g a=eL g a.bm a.ord:=if_pos h
theorem do_1{g:Gt}{a:Ac}(h:a.kind%8=1):bp g a=eo g a.bm a.id a.ord.id a.ord.aq a.ord.aA:=by unfold bp;rw[h];rfl
theorem CS{g:Gt}{a:Ac}(h:a.kind%8=2):bp g a=cr g a.bm a.ex:=by unfold bp;rw[h];rfl
theorem wJ{g:Gt}{a:Ac}(h:a.kind%8=3):bp g a=((eP g (l5 g.now a.more)).1,0,(eP g (l5 g.now a.more)).2):=by unfold bp;rw[h];rfl
theorem Br{g:Gt}{a:Ac}(h:a.kind%8=4):bp g a=((kZ g a.on).1,0,(kZ g a.on).2):=by unfold bp;rw[h];rfl
theorem Cw{g:Gt}{a:Ac}(h:a.kind%8=5):bp g a=((iQ g a.bm a.on).1,0,(iQ g a.bm a.on).2):=by unfold bp;rw[h];rfl
theorem zF{g:Gt}{a:Ac}(h:a.kind%8=6):bp g a=((gR g a.bm).1,0,(gR g a.bm).2):=by unfold bp;rw[h];rfl
theorem CZ{g:Gt}{a:Ac}(h:a.kind%8=7):bp g a=((fA g a.lim).1,0,(fA g a.lim).2):=by unfold bp;rw[h];rfl
theorem Xw{g:Gt}{a:Ac}(h:bt g=true):bt (bp g a).1=true:=by
 unfold bp
 split;exact VV h
 split;exact U4 h
 split;exact RX h
 split;exact UR h
 split;exact Gc h
 split;exact MF h
 split;exact JX h
 exact Ms h
theorem Ag{g:Gt}(h:bt g=true):bP g:=by
 obtain⟨h1,h2,h3,h4,h5,h6⟩:=oH h
 refine⟨by omega,by have:=(j7.1 h3).1;omega,fun v hv=>?_⟩
 obtain⟨f1,f2,f3,f4,f5,f6⟩:=iH (h6 v hv)
 obtain⟨⟨a1,a2,a3,_⟩,_⟩:=fj.1 f1
 exact⟨by omega,by omega,by omega,by omega⟩
section
variable{g:Gt}{k:Nat}{o:Od}{v:Vn}
end
end Go.Bk
end
section
namespace Go.Proofs.YtajeeghgiilhiaaGreat
open Go Go.Abs Go.RowKit Go.Bk
abbrev dA(a:Ac):AV:= .agg [.v (.int .u8 a.kind),i64 a.bm,str a.ord.id,str a.ord.acc,str a.ord.sym,bl a.ord.az,i64 a.ord.aq,i64 a.ord.aA,i64 a.ord.done,bl a.ord.bq,str a.id,str a.ex.id,str a.ex.ref,str a.ex.ord,str a.ex.acc,str a.ex.sym,i64 a.ex.kind,bl a.ex.az,i64 a.ex.aq,i64 a.ex.aA,i64 a.ex.time,.v (.int .u8 a.more),bl a.on,str a.lim.acc,str a.lim.sym,i64 a.lim.lA,i64 a.lim.short,i64 a.lim.aq,i64 a.lim.value]
theorem KL(l:List Od):ai E 32 [aV l] (fun r t=>r=bl (uE l)∧t=[]):=Cr l
theorem LU(l:List Lm):ai E 43 [bT l] (fun r t=>r=bl (CD l)∧t=[]):=xV l
theorem WG(g:Gt)(x:Lm)(hg:bP g):ai E 28 [aO g,br x] (fun r t=>r= .aC [aO (fA g x).1,i64 (fA g x).2]∧t=[]):=AB g x hg (Nl g.aT x hg.2.1)
theorem j9(a:Ac):ai E 33 [dA a] (fun r t=>r=bl (pW a)∧t=[]):=by
 refine ai.aw (n:=26) (rs:=[.tmp 2]) Tryz.func33 rfl Tryz.ntmps33 rfl ?_
 repeat'(first
 |refine aa.aj fun K hK=>?_
 |(refine aa.region ?_;simp only[go_sem])
 |(refine hK _ ?_;clear hK K)
 |(refine ah.one (KL [a.ord]) af rfl ?_;simp only[go_sem])
 |(refine ah.one (LU [a.lim]) af rfl ?_;simp only[go_sem])
 |(refine aL.split (fun h=>?_) (fun h=>?_)<;>simp only[h,go_sem]<;>(try simp only[dD] at h))
 |(
  refine aa.ret ?_
  refine aB.is ?_;simp only[go_sem,aE,aI,aH,aG,aJ,aF]<;>(first|(unfold pW;rw[decide_eq_true (p:=a.id.length≤100) ab,‹uE [a.ord]=true›,decide_eq_true (p:=a.ex.ord.length≤300) ab];rfl)|(unfold pW;rw[decide_eq_false (p:=a.ex.ord.length≤300) ab,Bool.and_false];rfl)|(unfold pW;rw[decide_eq_false (p:=a.id.length≤100) ab];rfl)|(simp_all[pW];done))))
theorem AG(now more:Int)(hm:0≤more∧more<256):ai E 87 [i64 now,.v (.int .u8 more)] (fun r t=>r=i64 (l5 now more)∧t=[]):=by
 refine ai.aw (n:=16) (rs:=[.tmp 4]) Tryz.func87 rfl Tryz.ntmps87 rfl ?_
 repeat'(first
 |refine aa.aj fun K hK=>?_
 |(refine aa.region ?_;simp only[go_sem])
 |(refine hK _ ?_;clear hK K)
 |refine aa.cond rfl (fun c=>?_) (fun c=>?_)<;>first|exact Bool.noConfusion c|(try simp only[dD] at c)
 |refine aa.skip ?_
 |(refine aL.cc (fun h=>?_) (fun h=>?_)<;>simp only[h,go_sem]<;>(try simp only[dD] at h))
 |(
  refine aa.ret ?_
  refine aB.is ?_;simp only[go_sem,aE,aI,aH,aG,aJ,aF]<;>((unfold l5);(first|(rw[if_pos ab];done)|(rw[if_neg ab,av (x:=more) ab ab,av ab ab];done)))))
theorem KY(g:Gt)(a:Ac)(hg:bP g)(hk:0≤a.kind)(hm:0≤a.more∧a.more<256)(hj:a.kind%8=0):ai E 34 [aO g,dA a] (fun r t=>r= .aC [aO (bp g a).1,i64 (bp g a).2.1,i64 (bp g a).2.2]∧t=[]):=by
 have hw:a.kind.tmod 8=0:=(Int.tmod_eq_emod_of_nonneg hk).trans hj
 refine ai.aw (n:=105) (rs:=[.cell 4 58,.tmp 5,.tmp 6]) Tryz.func34 rfl Tryz.ntmps34 rfl ?_
 repeat'(first
 |refine aa.aj fun K hK=>?_
 |(refine aa.region ?_;simp only[go_sem,hw])
 |(refine hK _ ?_;clear hK K)
 |refine aa.block ?_
 |refine aa.cond rfl (fun c=>?_) (fun c=>?_)<;>first|exact Bool.noConfusion c|(try simp only[dD] at c)
 |(refine ah.one (uH g a.bm a.ord hg) af rfl ?_;simp only[go_sem,hw])
 |(
  refine aa.ret ?_
  refine aB.is ?_;simp only[go_sem,aE,aI,aH,aG,aJ,aF]<;>(simp[zh hj];done)))
theorem Uf(g:Gt)(a:Ac)(hg:bP g)(hk:0≤a.kind)(hm:0≤a.more∧a.more<256)(hj:a.kind%8=1):ai E 34 [aO g,dA a] (fun r t=>r= .aC [aO (bp g a).1,i64 (bp g a).2.1,i64 (bp g a).2.2]∧t=[]):=by
 have hw:a.kind.tmod 8=1:=(Int.tmod_eq_emod_of_nonneg hk).trans hj
 refine ai.aw (n:=105) (rs:=[.cell 4 58,.tmp 5,.tmp 6]) Tryz.func34 rfl Tryz.ntmps34 rfl ?_
 repeat'(first
 |refine aa.aj fun K hK=>?_
 |(refine aa.region ?_;simp only[go_sem,hw])
 |(refine hK _ ?_;clear hK K)
 |refine aa.block ?_
 |refine aa.cond rfl (fun c=>?_) (fun c=>?_)<;>first|exact Bool.noConfusion c|(try simp only[dD] at c)
 |(refine ah.one (Ss g a.bm a.id a.ord.id a.ord.aq a.ord.aA hg) af rfl ?_;simp only[go_sem,hw])
 |(
  refine aa.ret ?_
  refine aB.is ?_;simp only[go_sem,aE,aI,aH,aG,aJ,aF]<;>(simp[do_1 hj];done)))
theorem Ju(g:Gt)(a:Ac)(hg:bP g)(hk:0≤a.kind)(hm:0≤a.more∧a.more<256)(hj:a.kind%8=2):ai E 34 [aO g,dA a] (fun r t=>r= .aC [aO (bp g a).1,i64 (bp g a).2.1,i64 (bp g a).2.2]∧t=[]):=by
 have hw:a.kind.tmod 8=2:=(Int.tmod_eq_emod_of_nonneg hk).trans hj
 refine ai.aw (n:=105) (rs:=[.cell 4 58,.tmp 5,.tmp 6]) Tryz.func34 rfl Tryz.ntmps34 rfl ?_
 repeat'(first
 |refine aa.aj fun K hK=>?_
 |(refine aa.region ?_;simp only[go_sem,hw])
 |(refine hK _ ?_;clear hK K)
 |refine aa.block ?_
 |refine aa.cond rfl (fun c=>?_) (fun c=>?_)<;>first|exact Bool.noConfusion c|(try simp only[dD] at c)
 |(refine ah.one (Uz g a.bm a.ex hg) af rfl ?_;simp only[go_sem,hw])
 |(
  refine aa.ret ?_
  refine aB.is ?_;simp only[go_sem,aE,aI,aH,aG,aJ,aF]<;>(simp[CS hj];done)))
theorem Dv(g:Gt)(a:Ac)(hg:bP g)(hk:0≤a.kind)(hm:0≤a.more∧a.more<256)(hj:a.kind%8=3):ai E 34 [aO g,dA a] (fun r t=>r= .aC [aO (bp g a).1,i64 (bp g a).2.1,i64 (bp g a).2.2]∧t=[]):=by
 have hw:a.kind.tmod 8=3:=(Int.tmod_eq_emod_of_nonneg hk).trans hj
 refine ai.aw (n:=105) (rs:=[.cell 4 58,.tmp 5,.tmp 6]) Tryz.func34 rfl Tryz.ntmps34 rfl ?_
 repeat'(first
 |refine aa.aj fun K hK=>?_
 |(refine aa.region ?_;simp only[go_sem,hw])
 |(refine aa.here 11 65 12 rfl ?_;refine aa.bf [0,1,2,3,4,5,6,7,8,9,10,11] [] af af rfl ?_;simp only[go_sem,hw])
 |(refine hK _ ?_;clear hK K)
 |refine aa.block ?_
 |refine aa.cond rfl (fun c=>?_) (fun c=>?_)<;>first|exact Bool.noConfusion c|(try simp only[dD] at c)
 |(refine ah.one (AG g.now a.more hm) af rfl ?_;simp only[go_sem,hw])
 |(refine ah.one (Ym g (l5 g.now a.more) hg) af rfl ?_;simp only[go_sem,hw])
 |(
  refine aa.ret ?_
  refine aB.is ?_;simp only[go_sem,aE,aI,aH,aG,aJ,aF]<;>(simp[wJ hj];done)))
theorem YW(g:Gt)(a:Ac)(hg:bP g)(hk:0≤a.kind)(hm:0≤a.more∧a.more<256)(hj:a.kind%8=4):ai E 34 [aO g,dA a] (fun r t=>r= .aC [aO (bp g a).1,i64 (bp g a).2.1,i64 (bp g a).2.2]∧t=[]):=by
 have hw:a.kind.tmod 8=4:=(Int.tmod_eq_emod_of_nonneg hk).trans hj
 refine ai.aw (n:=105) (rs:=[.cell 4 58,.tmp 5,.tmp 6]) Tryz.func34 rfl Tryz.ntmps34 rfl ?_
 repeat'(first
 |refine aa.aj fun K hK=>?_
 |(refine aa.region ?_;simp only[go_sem,hw])
 |(refine hK _ ?_;clear hK K)
 |refine aa.block ?_
 |refine aa.cond rfl (fun c=>?_) (fun c=>?_)<;>first|exact Bool.noConfusion c|(try simp only[dD] at c)
 |(refine ah.one (Ei g a.on hg) af rfl ?_;simp only[go_sem,hw])
 |(
  refine aa.ret ?_
  refine aB.is ?_;simp only[go_sem,aE,aI,aH,aG,aJ,aF]<;>(simp[Br hj];done)))
theorem Ui(g:Gt)(a:Ac)(hg:bP g)(hk:0≤a.kind)(hm:0≤a.more∧a.more<256)(hj:a.kind%8=5):ai E 34 [aO g,dA a] (fun r t=>r= .aC [aO (bp g a).1,i64 (bp g a).2.1,i64 (bp g a).2.2]∧t=[]):=by
 have hw:a.kind.tmod 8=5:=(Int.tmod_eq_emod_of_nonneg hk).trans hj
 refine ai.aw (n:=105) (rs:=[.cell 4 58,.tmp 5,.tmp 6]) Tryz.func34 rfl Tryz.ntmps34 rfl ?_
 repeat'(first
 |refine aa.aj fun K hK=>?_
 |(refine aa.region ?_;simp only[go_sem,hw])
 |(refine hK _ ?_;clear hK K)
 |refine aa.block ?_
 |refine aa.cond rfl (fun c=>?_) (fun c=>?_)<;>first|exact Bool.noConfusion c|(try simp only[dD] at c)
 |(refine ah.one (QW g a.bm a.on hg) af rfl ?_;simp only[go_sem,hw])
 |(
  refine aa.ret ?_
  refine aB.is ?_;simp only[go_sem,aE,aI,aH,aG,aJ,aF]<;>(simp[Cw hj];done)))
theorem F1(g:Gt)(a:Ac)(hg:bP g)(hk:0≤a.kind)(hm:0≤a.more∧a.more<256)(hj:a.kind%8=6):ai E 34 [aO g,dA a] (fun r t=>r= .aC [aO (bp g a).1,i64 (bp g a).2.1,i64 (bp g a).2.2]∧t=[]):=by
 have hw:a.kind.tmod 8=6:=(Int.tmod_eq_emod_of_nonneg hk).trans hj
 refine ai.aw (n:=105) (rs:=[.cell 4 58,.tmp 5,.tmp 6]) Tryz.func34 rfl Tryz.ntmps34 rfl ?_
 repeat'(first
 |refine aa.aj fun K hK=>?_
 |(refine aa.region ?_;simp only[go_sem,hw])
 |(refine hK _ ?_;clear hK K)
 |refine aa.block ?_
 |refine aa.cond rfl (fun c=>?_) (fun c=>?_)<;>first|exact Bool.noConfusion c|(try simp only[dD] at c)
 |(refine ah.one (QO g a.bm hg) af rfl ?_;simp only[go_sem,hw])
 |(
  refine aa.ret ?_
  refine aB.is ?_;simp only[go_sem,aE,aI,aH,aG,aJ,aF]<;>(simp[zF hj];done)))
theorem S8(g:Gt)(a:Ac)(hg:bP g)(hk:0≤a.kind)(hm:0≤a.more∧a.more<256)(hj:a.kind%8=7):ai E 34 [aO g,dA a] (fun r t=>r= .aC [aO (bp g a).1,i64 (bp g a).2.1,i64 (bp g a).2.2]∧t=[]):=by
 have hw:a.kind.tmod 8=7:=(Int.tmod_eq_emod_of_nonneg hk).trans hj
 refine ai.aw (n:=105) (rs:=[.cell 4 58,.tmp 5,.tmp 6]) Tryz.func34 rfl Tryz.ntmps34 rfl ?_
 repeat'(first
 |refine aa.aj fun K hK=>?_
 |(refine aa.region ?_;simp only[go_sem,hw])
 |(refine hK _ ?_;clear hK K)
 |refine aa.block ?_
 |refine aa.cond rfl (fun c=>?_) (fun c=>?_)<;>first|exact Bool.noConfusion c|(try simp only[dD] at c)
 |(refine ah.one (WG g a.lim hg) af rfl ?_;simp only[go_sem,hw])
 |(
  refine aa.ret ?_
  refine aB.is ?_;simp only[go_sem,aE,aI,aH,aG,aJ,aF]<;>(simp[CZ hj];done)))
end Go.Proofs.YtajeeghgiilhiaaGreat
end
