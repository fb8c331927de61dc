/- (GtF, G39, G40, G42, FrB, G20) -/
import Derived.Test.YtajeeghgiilhiaaGreatKxL
import Derived.Test.YtajeeghgiilhiaaGreatKxRb
import Derived.Test.YtajeeghgiilhiaaGreatKxN
import Derived.Test.YtajeeghgiilhiaaGreatKxK
import Derived.Test.YtajeeghgiilhiaaGreatKxR
import Derived.Test.YtajeeghgiilhiaaGreatKxT
import Derived.Test.YtajeeghgiilhiaaGreatKxSb
import Derived.Test.YtajeeghgiilhiaaGreatKxO
import Derived.Test.YtajeeghgiilhiaaGreatKxA
set_option linter.unusedVariables false
set_option linter.unusedSimpArgs false
set_option maxHeartbeats 16000000
set_option maxRecDepth 8000
section
namespace Go.Bk
open Go Go.Abs
def fG(x:Lm)(s:List Lm×Bool×Bool)(y:Lm):List Lm×Bool×Bool:=
 if bH y x<0∨bH x y<0 then((if s.2.1=false∧¬bH y x<0 then s.1++[x] else s.1)++[y],(if s.2.1=false∧¬bH y x<0 then true else s.2.1),s.2.2)
 else((if s.2.1=false∧¬bH y x<0 then s.1++[x] else s.1),(if s.2.1=false∧¬bH y x<0 then true else s.2.1),true)
def ko(l:List Lm)(x:Lm)(i:Nat):List Lm×Bool×Bool:=(l.take i).foldl (fG x) ([],false,false)
theorem kT{l:List Lm}{x y:Lm}{i:Nat}(h:l[i]?=some y):ko l x (i+1)=fG x (ko l x i) y:=by
 unfold ko;rw[cF h,List.foldl_append];rfl
section
variable{x y:Lm}{m:List Lm}{p t:Bool}
theorem wK(h1:¬bH y x<0)(h2:bH x y<0):fG x (m,false,t) y=(m++[x]++[y],true,t):=by unfold fG;simp[h1,h2]
theorem zb(h1:¬bH y x<0)(h2:¬bH x y<0):fG x (m,false,t) y=(m++[x],true,true):=by unfold fG;simp[h1,h2]
theorem vY(h1:bH y x<0):fG x (m,p,t) y=(m++[y],p,t):=by unfold fG;simp[h1]
theorem ta(h2:bH x y<0):fG x (m,true,t) y=(m++[y],true,t):=by unfold fG;simp[h2]
theorem DW(h1:¬bH y x<0)(h2:¬bH x y<0):fG x (m,true,t) y=(m,true,true):=by unfold fG;simp[h1,h2]
end
theorem zt{l:List Lm}{x:Lm}:∀i,i≤bn l x→ko l x i=(l.take i,false,false):=by
 intro i
 induction i with
 |zero=>intro _;rfl
 |succ i ih=>
  intro h
  have hl:=(nz l x).1
  have hy:l[i]?=some (l[i]' ab):=List.getElem?_eq_getElem _
  rw[kT hy,ih ab,vY ((nz l x).2.1 i _ ab hy),←cF hy]
theorem eq_not{x y:Lm}(h:bH y x=0):¬bH y x<0∧¬bH x y<0:=by
 refine⟨by omega,?_⟩
 rw[(uf h y).2];exact Tg y
theorem Ia{l:List Lm}{x:Lm}(hr:cd l=true):∀j,bn l x+1+j≤l.length→
 ko l x (bn l x+1+j)=if eH l x then(l.take (bn l x)++x::(l.drop (bn l x+1)).take j,true,true) else(l.take (bn l x)++x::(l.drop (bn l x)).take (j+1),true,false):=by
 obtain⟨p1,p2,p3⟩:=nz l x
 intro j
 induction j with
 |zero=>
  intro h
  have hy:l[bn l x]?=some (l[bn l x]' ab):=List.getElem?_eq_getElem _
  rw[Nat.add_zero,kT hy,zt _ (Nat.le_refl _)]
  cases hh:eH l x with
  |true=>
   rw[ml hy] at hh
   have:=eq_not (x:=x) (y:=l[bn l x]' ab) (by simpa using hh)
   rw[zb this.1 this.2];simp
  |false=>
   rw[ml hy] at hh
   have h0:¬bH (l[bn l x]' ab) x=0:=by simpa using hh
   rw[wK (p3 _ hy) (tJ (p3 _ hy) h0)]
   have:(l.drop (bn l x)).take (0+1)=[l[bn l x]' ab]:=by
    rw[Nat.zero_add,List.take_one,List.head?_drop,hy];rfl
   rw[this];simp
 |succ j ih=>
  intro h
  have hy:l[bn l x+1+j]?=some (l[bn l x+1+j]' ab):=List.getElem?_eq_getElem _
  have hp:l[bn l x]?=some (l[bn l x]' ab):=List.getElem?_eq_getElem _
  have hxy:bH x (l[bn l x+1+j]' ab)<0:=by
   have h1:=uA hr _ _ _ _ (show bn l x<bn l x+1+j by omega) hp hy
   by_cases h0:bH (l[bn l x]' ab) x=0
   ·rw[(uf h0 _).2];exact h1
   ·exact sS (tJ (p3 _ hp) h0) h1
  rw[←Nat.add_assoc,kT hy,ih ab]
  cases hh:eH l x with
  |true=>
   rw[if_pos rfl,if_pos rfl,ta hxy]
   have e:(l.drop (bn l x+1))[j]?=some (l[bn l x+1+j]' ab):=by rw[List.getElem?_drop];exact hy
   rw[cF e];simp
  |false=>
   rw[if_neg aD,if_neg aD,ta hxy]
   have e:(l.drop (bn l x))[j+1]?=some (l[bn l x+1+j]' ab):=by rw[List.getElem?_drop,←hy];congr 1;omega
   rw[cF e];simp
theorem XP{l:List Lm}{x:Lm}(hr:cd l=true):(ko l x l.length).2.2=eH l x∧
 (if(ko l x l.length).2.1 then(ko l x l.length).1 else(ko l x l.length).1++[x])=(if eH l x then l.set (bn l x) x else l.take (bn l x)++x::l.drop (bn l x)):=by
 obtain⟨p1,p2,p3⟩:=nz l x
 rcases Nat.lt_or_ge (bn l x) l.length with h|h
 ·have:=Ia (x:=x) hr (l.length-(bn l x+1)) ab
  rw[show bn l x+1+(l.length-(bn l x+1))=l.length by omega] at this
  rw[this]
  cases hh:eH l x with
  |true=>
   rw[if_pos rfl]
   refine⟨rfl,?_⟩
   rw[if_pos rfl,if_pos rfl,List.take_of_length_le (l:=l.drop (bn l x+1)) (by rw[List.length_drop];omega),List.set_eq_take_append_cons_drop,if_pos h]
  |false=>
   rw[if_neg aD]
   refine⟨rfl,?_⟩
   rw[if_pos rfl,if_neg aD,List.take_of_length_le (l:=l.drop (bn l x)) (by rw[List.length_drop];omega)]
 ·have e:bn l x=l.length:=by omega
  rw[zt l.length ab,u5 h]
  refine⟨rfl,?_⟩
  rw[if_neg aD,if_neg aD,e,List.take_of_length_le (Nat.le_refl _),List.drop_of_length_le (Nat.le_refl _)]
theorem MO{l:List Lm}{x:Lm}(h:¬(df l x).2=0):(df l x).1=l:=by
 unfold df at h ⊢
 split
 ·rename_i h1
  rw[if_pos h1] at h
  split
  ·rename_i y hy
   rw[hy] at h
   dsimp only at h
   split
   ·rename_i h2;rw[if_pos h2] at h;exact absurd rfl h
   ·rename_i h2
    rw[if_neg h2] at h
    split
    ·rfl
    ·rename_i h3;rw[if_neg h3] at h;exact absurd rfl h
  ·rename_i hy
   rw[hy] at h
   dsimp only at h
   split
   ·rfl
   ·rename_i h3;rw[if_neg h3] at h;exact absurd rfl h
 ·rfl
end Go.Bk
end
section
namespace Go.Proofs.YtajeeghgiilhiaaGreat
open Go Go.Abs Go.RowKit Go.Bk
section
variable{l m:List Lm}{x:Lm}{pt th:Bool}(hr:cd l=true)(hm:eC x=true)(h:th=eH l x∧(if pt=true then m else m++[x])=(if eH l x=true then l.set (bn l x) x else l.take (bn l x)++x::l.drop (bn l x)))
include hr hm h
theorem X8(ht:th=true):df l x=(if pt=true then m else m++[x],0):=by
 have e:eH l x=true:=h.1.symm.trans ht
 rw[sV hr hm e,h.2,if_pos e]
theorem Ra(ht:th=false)(h32:32≤l.length):df l x=(l,5):=
 v7 hr hm (h.1.symm.trans ht) (by have:=(j7.1 hr).1;omega)
theorem S3(ht:th=false)(h32:¬32≤l.length):df l x=(if pt=true then m else m++[x],0):=by
 have e:eH l x=false:=h.1.symm.trans ht
 rw[tG hr hm e ab,h.2,if_neg (by rw[e];simp)]
end
theorem C1(l:List Lm)(x:Lm)(hl:l.length≤9223372036854775807)(hs:∀x∈l,x.acc.length≤9223372036854775807∧x.sym.length≤9223372036854775807)(h1:x.acc.length≤9223372036854775807)(h2:x.sym.length≤9223372036854775807):ai E 178 [bT l,br x] (fun r t=>r= .aC [bT (df l x).1,i64 (df l x).2]∧t=[]):=by
 refine ai.aw (n:=76) (rs:=[.tmp 4,.tmp 5]) Tryz.func178 rfl Tryz.ntmps178 rfl ?_
 repeat'(first
 |refine aa.aj fun K hK=>?_
 |(
  refine aa.here 8 25 11 rfl ?_
  obtain⟨y,hy⟩:∃y,l[i]?=some y:=⟨_,List.getElem?_eq_getElem ab⟩
  refine aa.bf [0,1,2,3,4,5,6,7,8,9,10] [] af af rfl ?_;simp only[go_sem])
 |(
  refine aa.here 14 61 2 rfl ?_
  obtain rfl:i=l.length:=by omega
  have hra:=XP (x:=x) hr
  rw[g3] at hra
  refine aa.region ?_;simp only[go_sem])
 |(refine aa.region ?_;simp only[go_sem])
 |(refine aa.here 11 40 14 rfl ?_;refine aa.bf [0,1,2,3,4,5,6,7,8,9,10,11,12,13] [] af af rfl ?_;simp only[go_sem])
 |(refine hK _ ?_;clear hK K)
 |refine aa.block ?_
 |refine aa.cond rfl (fun c=>?_) (fun c=>?_)<;>first|exact Bool.noConfusion c|(try simp only[dD] at c)
 |refine aa.skip ?_
 |(refine aa.exit ?_;simp only[go_sem])
 |(refine ah.one (uo l hl hs) af rfl ?_;simp only[go_sem])
 |(refine ah.one (B5 x h1 h2) af rfl ?_;simp only[go_sem])
 |(refine ah.one (vW y x) af rfl ?_;simp only[go_sem])
 |(refine ah.one (vW x y) af rfl ?_;simp only[go_sem])
 |(refine aL.cc (fun h=>?_) (fun h=>?_)<;>simp only[h,go_sem]<;>(try simp only[dD] at h))
 |(refine aL.split (fun h=>?_) (fun h=>?_)<;>simp only[h,go_sem]<;>(try simp only[dD] at h))
 |(refine aM.bG ae ?_;(try simp only[go_sem]))
 |((with_reducible refine And.intro ?_ ?_);(focus(first|omega|(simp;done)));(try simp only[hb,go_sem]))
 |(
  refine aa.here 6 19 4 rfl ?_
  have hr:cd l=true:=by simp_all
  have hmx:eC x=true:=by simp_all
  have h32:=(j7.1 hr).1
  refine aa.fu 6 6 rfl ?_
  simp only[go_sem]
  refine aa.ck (ι:=Nat×List Lm×Bool×Bool) [19,20,21,22,23,24,25,26,27,28,29,30,31,32,33,34,35,36,37,38,39,40,41,42,43,44,45,46,47,48,49,50,51,52,53,54,55,56,57,58,59,60] (fun⟨i,m,pt,th⟩=>[(9,i64 i),(6,.sl (some 0) 6 (m.map br)),(7,bl pt),(8,bl th)]) (fun⟨i,m,pt,th⟩=>[some [br x]]) (fun⟨i,m,pt,th⟩=>[m.length]) (fun⟨i,m,pt,th⟩=>i≤l.length∧m.length≤2*i∧ko l x i=(m,pt,th)) (fun⟨i,m,pt,th⟩=>l.length-i) ((0,[],false,false)) ?_ ?_ ?_
  ·(try simp only[go_sem]);(repeat'(exact .inr (aR rfl)));done
  ·exact⟨Nat.zero_le _,Nat.zero_le _,rfl⟩
  rintro⟨i,m,pt,th⟩ ⟨g1,g2,g3⟩
  simp only[go_sem]
  cases pt)
 |(
  first
  |(have hs9:fG x (m,false,th) y=(m++[x]++[y],true,th):=by(exact wK ae ae)
    refine⟨(i+1,m++[x]++[y],true,th),?_,⟨by show i+1≤l.length;omega,by show(m++[x]++[y]:List Lm).length≤2*(i+1);(try simp only[List.length_append,List.length_cons,List.length_nil]);omega,by rw[kT hy,g3];exact hs9⟩,by show l.length-(i+1)<l.length-i;omega⟩
    (try simp only[go_sem]);(try rw[av ab ab]);(repeat'(first|refine And.intro ?_ ?_|exact .inr rfl|trivial|exact .inr (aR rfl)|(simp;done)));done)
  |(have hs9:fG x (m,false,th) y=(m++[x],true,true):=by(exact zb ae ae)
    refine⟨(i+1,m++[x],true,true),?_,⟨by show i+1≤l.length;omega,by show(m++[x]:List Lm).length≤2*(i+1);(try simp only[List.length_append,List.length_cons,List.length_nil]);omega,by rw[kT hy,g3];exact hs9⟩,by show l.length-(i+1)<l.length-i;omega⟩
    (try simp only[go_sem]);(try rw[av ab ab]);(repeat'(first|refine And.intro ?_ ?_|exact .inr rfl|trivial|exact .inr (aR rfl)|(simp;done)));done)
  |(have hs9:fG x (m,false,th) y=(m++[y],false,th):=by(exact vY ae)
    refine⟨(i+1,m++[y],false,th),?_,⟨by show i+1≤l.length;omega,by show(m++[y]:List Lm).length≤2*(i+1);(try simp only[List.length_append,List.length_cons,List.length_nil]);omega,by rw[kT hy,g3];exact hs9⟩,by show l.length-(i+1)<l.length-i;omega⟩
    (try simp only[go_sem]);(try rw[av ab ab]);(repeat'(first|refine And.intro ?_ ?_|exact .inr rfl|trivial|exact .inr (aR rfl)|(simp;done)));done)
  |(have hs9:fG x (m,true,th) y=(m++[y],true,th):=by(exact vY ae)
    refine⟨(i+1,m++[y],true,th),?_,⟨by show i+1≤l.length;omega,by show(m++[y]:List Lm).length≤2*(i+1);(try simp only[List.length_append,List.length_cons,List.length_nil]);omega,by rw[kT hy,g3];exact hs9⟩,by show l.length-(i+1)<l.length-i;omega⟩
    (try simp only[go_sem]);(try rw[av ab ab]);(repeat'(first|refine And.intro ?_ ?_|exact .inr rfl|exact .inr (aR rfl)|(simp;done)));done)
  |(have hs9:fG x (m,true,th) y=(m++[y],true,th):=by(exact ta ae)
    refine⟨(i+1,m++[y],true,th),?_,⟨by show i+1≤l.length;omega,by show(m++[y]:List Lm).length≤2*(i+1);(try simp only[List.length_append,List.length_cons,List.length_nil]);omega,by rw[kT hy,g3];exact hs9⟩,by show l.length-(i+1)<l.length-i;omega⟩
    (try simp only[go_sem]);(try rw[av ab ab]);(repeat'(first|refine And.intro ?_ ?_|exact .inr rfl|exact .inr (aR rfl)|(simp;done)));done)
  |(have hs9:fG x (m,true,th) y=(m,true,true):=by(exact DW ae ae)
    refine⟨(i+1,m,true,true),?_,⟨by show i+1≤l.length;omega,by show(m:List Lm).length≤2*(i+1);(try simp only[List.length_append,List.length_cons,List.length_nil]);omega,by rw[kT hy,g3];exact hs9⟩,by show l.length-(i+1)<l.length-i;omega⟩
    (try simp only[go_sem]);(try rw[av ab ab]);(repeat'(first|refine And.intro ?_ ?_|exact .inr rfl|exact .inr (aR rfl)));done))
 |(
  refine aa.ret ?_
  refine aB.is ?_;simp only[go_sem,aE,aI,aH,aG,aJ,aF]<;>(first|(rw[qX (fun e=>by simp_all)];exact⟨rfl,rfl⟩)|(rw[X8 hr hmx hra ae];simp;done)|(rw[Ra hr hmx hra ae ab];exact⟨rfl,rfl⟩)|(rw[S3 hr hmx hra ae ab];simp;done)))
 |refine aa.fin ae ?_)
theorem FK{g:Gt}{x:Lm}(h:bt g=true):fA g x=(⟨g.ao,(df g.aT x).1,g.kill,g.now,g.pat⟩,(df g.aT x).2):=by
 by_cases h2:(df g.aT x).2=0
 ·rw[AT h h2,h2]
 ·rw[zT h h2,MO h2]
theorem Gw(g:Gt)(x:Lm)(hg:dS g)(hlm:cU g.aT)(h1:x.acc.length≤9223372036854775807)(h2:x.sym.length≤9223372036854775807):ai E 118 [aO g,br x] (fun r t=>r= .aC [aO (fA g x).1,i64 (fA g x).2]∧t=[]):=by
 refine ai.aw (n:=23) (rs:=[.cell 4 58,.tmp 5]) Tryz.func118 rfl Tryz.ntmps118 rfl ?_
 repeat'(first
 |refine aa.aj fun K hK=>?_
 |(refine aa.region ?_;simp only[go_sem])
 |(refine hK _ ?_;clear hK K)
 |refine aa.cond rfl (fun c=>?_) (fun c=>?_)<;>(try simp only[dD] at c)
 |refine aa.skip ?_
 |(refine ah.one (gO g hg hlm) af rfl ?_;simp only[go_sem])
 |(refine ah.one (C1 g.aT x hg.2.1 hlm h1 h2) af rfl ?_;simp only[go_sem])
 |(
  refine aa.ret ?_
  refine aB.is ?_;simp only[go_sem,aE,aI,aH,aG,aJ,aF]<;>(first|(rw[vA ae];simp;done)|(rw[FK ae];simp;done))))
theorem NH(g:Gt)(n:Int)(x:Ex)(hg:bP g)(hlm:cU g.aT)(hxo:iF x):ai E 114 [aO g,i64 n,ar x] (fun r t=>r= .aC [aO (cr g n x).1,i64 (cr g n x).2.1,i64 (cr g n x).2.2]∧t=[]):=by
 cases ha:ba g n with
 |false=>
  have h:=LQ g n x hg hlm ha
  rw[sj ha];exact h
 |true=>
  obtain⟨k,w,rfl,hx0⟩:=fk ha
  obtain⟨nb,kk,hcf⟩:∃nb kk,bj w.book x=(nb,kk):=⟨_,_,rfl⟩
  have hr:=Ez (b:=w.book) (x:=x)
  rw[hcf] at hr
  have hr1:0≤kk:=hr.1
  have hr2:kk≤4:=hr.2
  by_cases h0:kk=0
  ·subst h0;exact Qe g k w x hg hlm hx0 ha hxo nb hcf
  ·exact Vk g k w x hg hlm hx0 ha hxo nb kk h0 ⟨by omega,hr2⟩ hcf (GF (iH (jW ha hx0)).1 hcf)
theorem WK(g:Gt)(a:Ac)(hg:bP g)(hlm:cU g.aT)(hk:0≤a.kind)(hm:0≤a.more∧a.more<256)(hx:iF a.ex)(hl1:a.lim.acc.length≤9223372036854775807)(hl2:a.lim.sym.length≤9223372036854775807)(hj:a.kind%8=0):ai E 44 [aO g,dA a] (fun r t=>r= .aC [aO (bp g a).1,i64 (bp g a).2.1,i64 (bp g a).2.2]∧t=[]):=by
 have hw:a.kind.tmod 8=0:=(Int.tmod_eq_emod_of_nonneg hk).trans hj
 refine ai.aw (n:=103) (rs:=[.cell 4 58,.tmp 5,.tmp 6]) Tryz.func44 rfl Tryz.ntmps44 rfl ?_
 repeat'(first
 |refine aa.aj fun K hK=>?_
 |(refine aa.region ?_;simp only[go_sem,hw])
 |(refine hK _ ?_;clear hK K)
 |refine aa.block ?_
 |refine aa.cond rfl (fun c=>?_) (fun c=>?_)<;>first|exact Bool.noConfusion c|(try simp only[dD] at c)
 |(refine ah.one (L5 g a.bm a.ord hg hlm) af rfl ?_;simp only[go_sem,hw])
 |(
  refine aa.ret ?_
  refine aB.is ?_;simp only[go_sem,aE,aI,aH,aG,aJ,aF]<;>((simp[zh hj];done))))
theorem Fg(g:Gt)(a:Ac)(hg:bP g)(hlm:cU g.aT)(hk:0≤a.kind)(hm:0≤a.more∧a.more<256)(hx:iF a.ex)(hl1:a.lim.acc.length≤9223372036854775807)(hl2:a.lim.sym.length≤9223372036854775807)(hj:a.kind%8=1):ai E 44 [aO g,dA a] (fun r t=>r= .aC [aO (bp g a).1,i64 (bp g a).2.1,i64 (bp g a).2.2]∧t=[]):=by
 have hw:a.kind.tmod 8=1:=(Int.tmod_eq_emod_of_nonneg hk).trans hj
 refine ai.aw (n:=103) (rs:=[.cell 4 58,.tmp 5,.tmp 6]) Tryz.func44 rfl Tryz.ntmps44 rfl ?_
 repeat'(first
 |refine aa.aj fun K hK=>?_
 |(refine aa.region ?_;simp only[go_sem,hw])
 |(refine hK _ ?_;clear hK K)
 |refine aa.block ?_
 |refine aa.cond rfl (fun c=>?_) (fun c=>?_)<;>first|exact Bool.noConfusion c|(try simp only[dD] at c)
 |(refine ah.one (Sh g a.bm a.id a.ord.id a.ord.aq a.ord.aA hg hlm) af rfl ?_;simp only[go_sem,hw])
 |(
  refine aa.ret ?_
  refine aB.is ?_;simp only[go_sem,aE,aI,aH,aG,aJ,aF]<;>((simp[do_1 hj];done))))
theorem DK(g:Gt)(a:Ac)(hg:bP g)(hlm:cU g.aT)(hk:0≤a.kind)(hm:0≤a.more∧a.more<256)(hx:iF a.ex)(hl1:a.lim.acc.length≤9223372036854775807)(hl2:a.lim.sym.length≤9223372036854775807)(hj:a.kind%8=2):ai E 44 [aO g,dA a] (fun r t=>r= .aC [aO (bp g a).1,i64 (bp g a).2.1,i64 (bp g a).2.2]∧t=[]):=by
 have hw:a.kind.tmod 8=2:=(Int.tmod_eq_emod_of_nonneg hk).trans hj
 refine ai.aw (n:=103) (rs:=[.cell 4 58,.tmp 5,.tmp 6]) Tryz.func44 rfl Tryz.ntmps44 rfl ?_
 repeat'(first
 |refine aa.aj fun K hK=>?_
 |(refine aa.region ?_;simp only[go_sem,hw])
 |(refine hK _ ?_;clear hK K)
 |refine aa.block ?_
 |refine aa.cond rfl (fun c=>?_) (fun c=>?_)<;>first|exact Bool.noConfusion c|(try simp only[dD] at c)
 |(refine ah.one (NH g a.bm a.ex hg hlm hx) af rfl ?_;simp only[go_sem,hw])
 |(
  refine aa.ret ?_
  refine aB.is ?_;simp only[go_sem,aE,aI,aH,aG,aJ,aF]<;>((simp[CS hj];done))))
theorem FN(g:Gt)(a:Ac)(hg:bP g)(hlm:cU g.aT)(hk:0≤a.kind)(hm:0≤a.more∧a.more<256)(hx:iF a.ex)(hl1:a.lim.acc.length≤9223372036854775807)(hl2:a.lim.sym.length≤9223372036854775807)(hj:a.kind%8=3):ai E 44 [aO g,dA a] (fun r t=>r= .aC [aO (bp g a).1,i64 (bp g a).2.1,i64 (bp g a).2.2]∧t=[]):=by
 have hw:a.kind.tmod 8=3:=(Int.tmod_eq_emod_of_nonneg hk).trans hj
 refine ai.aw (n:=103) (rs:=[.cell 4 58,.tmp 5,.tmp 6]) Tryz.func44 rfl Tryz.ntmps44 rfl ?_
 repeat'(first
 |refine aa.aj fun K hK=>?_
 |(refine aa.region ?_;simp only[go_sem,hw])
 |(refine aa.here 11 65 12 rfl ?_;refine aa.bf [0,1,2,3,4,5,6,7,8,9,10,11] [] af af rfl ?_;simp only[go_sem,hw])
 |(refine hK _ ?_;clear hK K)
 |refine aa.block ?_
 |refine aa.cond rfl (fun c=>?_) (fun c=>?_)<;>first|exact Bool.noConfusion c|(try simp only[dD] at c)
 |(refine ah.one (AG g.now a.more hm) af rfl ?_;simp only[go_sem,hw])
 |(refine ah.one (EF g (l5 g.now a.more) hg.fit hlm) af rfl ?_;simp only[go_sem,hw])
 |(
  refine aa.ret ?_
  refine aB.is ?_;simp only[go_sem,aE,aI,aH,aG,aJ,aF]<;>((simp[wJ hj];done))))
theorem E7(g:Gt)(a:Ac)(hg:bP g)(hlm:cU g.aT)(hk:0≤a.kind)(hm:0≤a.more∧a.more<256)(hx:iF a.ex)(hl1:a.lim.acc.length≤9223372036854775807)(hl2:a.lim.sym.length≤9223372036854775807)(hj:a.kind%8=4):ai E 44 [aO g,dA a] (fun r t=>r= .aC [aO (bp g a).1,i64 (bp g a).2.1,i64 (bp g a).2.2]∧t=[]):=by
 have hw:a.kind.tmod 8=4:=(Int.tmod_eq_emod_of_nonneg hk).trans hj
 refine ai.aw (n:=103) (rs:=[.cell 4 58,.tmp 5,.tmp 6]) Tryz.func44 rfl Tryz.ntmps44 rfl ?_
 repeat'(first
 |refine aa.aj fun K hK=>?_
 |(refine aa.region ?_;simp only[go_sem,hw])
 |(refine hK _ ?_;clear hK K)
 |refine aa.block ?_
 |refine aa.cond rfl (fun c=>?_) (fun c=>?_)<;>first|exact Bool.noConfusion c|(try simp only[dD] at c)
 |refine aa.skip ?_
 |(refine ah.one (gO g hg.fit hlm) af rfl ?_;simp only[go_sem,hw])
 |(
  refine aa.ret ?_
  refine aB.is ?_;simp only[go_sem,aE,aI,aH,aG,aJ,aF]<;>((rw[Br hj];first|(rw[tV ae];simp;done)|(rw[ve ae];simp;done)))))
theorem PD(g:Gt)(a:Ac)(hg:bP g)(hlm:cU g.aT)(hk:0≤a.kind)(hm:0≤a.more∧a.more<256)(hx:iF a.ex)(hl1:a.lim.acc.length≤9223372036854775807)(hl2:a.lim.sym.length≤9223372036854775807)(hj:a.kind%8=5):ai E 44 [aO g,dA a] (fun r t=>r= .aC [aO (bp g a).1,i64 (bp g a).2.1,i64 (bp g a).2.2]∧t=[]):=by
 have hw:a.kind.tmod 8=5:=(Int.tmod_eq_emod_of_nonneg hk).trans hj
 refine ai.aw (n:=103) (rs:=[.cell 4 58,.tmp 5,.tmp 6]) Tryz.func44 rfl Tryz.ntmps44 rfl ?_
 repeat'(first
 |refine aa.aj fun K hK=>?_
 |(refine aa.region ?_;simp only[go_sem,hw])
 |(refine hK _ ?_;clear hK K)
 |refine aa.block ?_
 |refine aa.cond rfl (fun c=>?_) (fun c=>?_)<;>first|exact Bool.noConfusion c|(try simp only[dD] at c)
 |(refine ah.one (Jb g a.bm a.on hg hlm) af rfl ?_;simp only[go_sem,hw])
 |(
  refine aa.ret ?_
  refine aB.is ?_;simp only[go_sem,aE,aI,aH,aG,aJ,aF]<;>((simp[Cw hj];done))))
theorem Og(g:Gt)(a:Ac)(hg:bP g)(hlm:cU g.aT)(hk:0≤a.kind)(hm:0≤a.more∧a.more<256)(hx:iF a.ex)(hl1:a.lim.acc.length≤9223372036854775807)(hl2:a.lim.sym.length≤9223372036854775807)(hj:a.kind%8=6):ai E 44 [aO g,dA a] (fun r t=>r= .aC [aO (bp g a).1,i64 (bp g a).2.1,i64 (bp g a).2.2]∧t=[]):=by
 have hw:a.kind.tmod 8=6:=(Int.tmod_eq_emod_of_nonneg hk).trans hj
 refine ai.aw (n:=103) (rs:=[.cell 4 58,.tmp 5,.tmp 6]) Tryz.func44 rfl Tryz.ntmps44 rfl ?_
 repeat'(first
 |refine aa.aj fun K hK=>?_
 |(refine aa.region ?_;simp only[go_sem,hw])
 |(refine hK _ ?_;clear hK K)
 |refine aa.block ?_
 |refine aa.cond rfl (fun c=>?_) (fun c=>?_)<;>first|exact Bool.noConfusion c|(try simp only[dD] at c)
 |(refine ah.one (HM g a.bm hg hlm) af rfl ?_;simp only[go_sem,hw])
 |(
  refine aa.ret ?_
  refine aB.is ?_;simp only[go_sem,aE,aI,aH,aG,aJ,aF]<;>((simp[zF hj];done))))
theorem QJ(g:Gt)(a:Ac)(hg:bP g)(hlm:cU g.aT)(hk:0≤a.kind)(hm:0≤a.more∧a.more<256)(hx:iF a.ex)(hl1:a.lim.acc.length≤9223372036854775807)(hl2:a.lim.sym.length≤9223372036854775807)(hj:a.kind%8=7):ai E 44 [aO g,dA a] (fun r t=>r= .aC [aO (bp g a).1,i64 (bp g a).2.1,i64 (bp g a).2.2]∧t=[]):=by
 have hw:a.kind.tmod 8=7:=(Int.tmod_eq_emod_of_nonneg hk).trans hj
 refine ai.aw (n:=103) (rs:=[.cell 4 58,.tmp 5,.tmp 6]) Tryz.func44 rfl Tryz.ntmps44 rfl ?_
 repeat'(first
 |refine aa.aj fun K hK=>?_
 |(refine aa.region ?_;simp only[go_sem,hw])
 |(refine hK _ ?_;clear hK K)
 |refine aa.block ?_
 |refine aa.cond rfl (fun c=>?_) (fun c=>?_)<;>first|exact Bool.noConfusion c|(try simp only[dD] at c)
 |(refine ah.one (Gw g a.lim hg.fit hlm hl1 hl2) af rfl ?_;simp only[go_sem,hw])
 |(
  refine aa.ret ?_
  refine aB.is ?_;simp only[go_sem,aE,aI,aH,aG,aJ,aF]<;>((simp[CZ hj];done))))
end Go.Proofs.YtajeeghgiilhiaaGreat
end
section
namespace Go.Bk
open Go Go.Abs
def Gz:Gt:=⟨[zeroV],[],false,0,100⟩
theorem Ru:oB 1 100=(Gz,0):=rfl
section
variable{az:Bool}{q p f:Int}(hq:1≤q∧q≤1073741824)(hp:0≤p∧p≤999)
end
end Go.Bk
end
section
namespace Go.Proofs.YtajeeghgiilhiaaGreat
open Go Go.Abs Go.RowKit Go.Bk
def mN(g:Gt)(a s:Bs):Ws:=if bt g then jT g a s else(0,0)
theorem jY(g:Gt)(a s:Bs)(hg:dS g):ai E 31 [aO g,str a,str s] (fun r t=>r=wV (mN g a s)∧t=[]):=IV g a s hg
theorem vP{v:Vn}{x:List Lm}{b:Bool}{n p:Int}(h:oK v)(hx:x.length≤1000000):bP ⟨[v],x,b,n,p⟩:=by
 refine⟨by simp,hx,fun w hw=>?_⟩
 simp only[List.mem_singleton] at hw
 subst hw;exact h
def Lw:Lm:=⟨[97],[115],10,0,10,1000⟩
def nY:Gt:=⟨[zeroV],[Lw],false,0,100⟩
abbrev Ow(id:Bs)(q:Int):Od:=⟨id,[97],[115],true,q,5,0,false⟩
def jZ:Gt:=⟨[⟨nx,[⟨[111],[97],[115],true,7,5,0,true⟩],0,false⟩],[Lw],false,0,100⟩
theorem BR:oK zeroV:=by refine⟨?_,?_,?_,?_⟩<;>decide
theorem Yc:bP Gz:=vP BR ay
theorem VT:bP nY:=vP BR ay
theorem yk:bP jZ:=vP (by refine⟨?_,?_,?_,?_⟩<;>decide) ay
theorem EV  :ai E 27 [i64 1,i64 100] (fun r t=>r= .aC [aO Gz,i64 0]∧t=[]):=by
 have h:=jL 1 100
 rw[Ru] at h;exact h
theorem V5  :ai E 28 [aO Gz,br Lw] (fun r t=>r= .aC [aO nY,i64 0]∧t=[]):=by
 have h:=AB Gz Lw Yc (UE Lw)
 rw[show fA Gz Lw=(nY,0) from rfl] at h;exact h
theorem Su  :ai E 29 [aO nY,i64 0,a8 (Ow [111] 7)] (fun r t=>r= .aC [aO jZ,i64 0,i64 0]∧t=[]):=by
 have h:=uH nY 0 (Ow [111] 7) VT
 rw[show eL nY 0 (Ow [111] 7)=(jZ,0,0) from rfl] at h;exact h
theorem Lg  :ai E 29 [aO jZ,i64 0,a8 (Ow [112] 4)] (fun r t=>r= .aC [aO jZ,i64 4,i64 0]∧t=[]):=by
 have h:=uH jZ 0 (Ow [112] 4) yk
 rw[show eL jZ 0 (Ow [112] 4)=(jZ,4,0) from rfl] at h;exact h
theorem Xh  :ai E 31 [aO jZ,str [97],str [115]] (fun r t=>r=wV (7,0)∧t=[]):=by
 have h:=jY jZ [97] [115] yk.fit
 rw[show mN jZ [97] [115]=(7,0) from rfl] at h;exact h
theorem ki  :ai E 26 [] (fun r t=>r=bl true∧t=[]):=by
 refine ai.aw (n:=65) (rs:=[.tmp 0]) Tryz.func26 rfl Tryz.ntmps26 rfl ?_
 repeat'(first
 |refine aa.aj fun K hK=>?_
 |(refine aa.region ?_;simp only[go_sem])
 |(refine hK _ ?_;clear hK K)
 |(refine ah.one (EV) af rfl ?_;simp only[go_sem])
 |(refine ah.one (V5) af rfl ?_;simp only[go_sem])
 |(refine ah.one (Su) af rfl ?_;simp only[go_sem])
 |(refine ah.one (Lg) af rfl ?_;simp only[go_sem])
 |(refine ah.one (Xh) af rfl ?_;simp only[go_sem])
 |(
  refine aa.ret ?_
  refine aB.is ?_;simp only[go_sem,aE,aI,aH,aG,aJ,aF]<;>(first|fail)))
end Go.Proofs.YtajeeghgiilhiaaGreat
end
