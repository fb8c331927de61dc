/- (GtF, G39, G40, G42, FrB, G20) -/
import Derived.Test.YtajeeghgiilhiaaGreatKwL
import Derived.Test.YtajeeghgiilhiaaGreatKwRb
import Derived.Test.YtajeeghgiilhiaaGreatKwM
import Derived.Test.YtajeeghgiilhiaaGreatKwK
import Derived.Test.YtajeeghgiilhiaaGreatKwR
import Derived.Test.YtajeeghgiilhiaaGreatKwSb
import Derived.Test.YtajeeghgiilhiaaGreatKwN
set_option linter.unusedVariables false
set_option linter.unusedSimpArgs false
set_option linter.unusedSectionVars false
set_option maxHeartbeats 16000000
set_option maxRecDepth 8000
section
namespace Go.Bk
open Go Go.Abs
def fB(x:Lm)(s:List Lm×Bool×Bool)(y:Lm):List Lm×Bool×Bool:=
 if bw y x<0∨bw x y<0 then((if s.2.1=false∧¬bw y x<0 then s.1++[x] else s.1)++[y],(if s.2.1=false∧¬bw y x<0 then true else s.2.1),s.2.2)
 else((if s.2.1=false∧¬bw y x<0 then s.1++[x] else s.1),(if s.2.1=false∧¬bw y x<0 then true else s.2.1),true)
def jX(l:List Lm)(x:Lm)(i:Nat):List Lm×Bool×Bool:=(l.take i).foldl (fB x) ([],false,false)
theorem kj{l:List Lm}{x y:Lm}{i:Nat}(h:l[i]?=some y):jX l x (i+1)=fB x (jX l x i) y:=by
 unfold jX;rw[cp h,List.foldl_append];rfl
section
variable{x y:Lm}{m:List Lm}{p t:Bool}
theorem wm(h1:¬bw y x<0)(h2:bw x y<0):fB x (m,false,t) y=(m++[x]++[y],true,t):=by unfold fB;simp[h1,h2]
theorem yr(h1:¬bw y x<0)(h2:¬bw x y<0):fB x (m,false,t) y=(m++[x],true,true):=by unfold fB;simp[h1,h2]
theorem uK(h1:bw y x<0):fB x (m,p,t) y=(m++[y],p,t):=by unfold fB;simp[h1]
theorem uq(h2:bw x y<0):fB x (m,true,t) y=(m++[y],true,t):=by unfold fB;simp[h2]
theorem Wa(h1:¬bw y x<0)(h2:¬bw x y<0):fB x (m,true,t) y=(m,true,true):=by unfold fB;simp[h1,h2]
end
theorem xa{l:List Lm}{x:Lm}:∀i,i≤aZ l x→jX l x i=(l.take i,false,false):=by
 intro i
 induction i with
 |zero=>intro _;rfl
 |succ i ih=>
  intro h
  have hl:=(lL l x).1
  have hy:l[i]?=some (l[i]'(by omega)):=List.getElem?_eq_getElem _
  rw[kj hy,ih (by omega),uK ((lL l x).2.1 i _ (by omega) hy),←cp hy]
theorem eq_not{x y:Lm}(h:bw y x=0):¬bw y x<0∧¬bw x y<0:=by
 refine⟨by omega,?_⟩
 rw[(vu h y).2];exact Tm y
theorem Wh{l:List Lm}{x:Lm}(hr:bX l=true):∀j,aZ l x+1+j≤l.length→
 jX l x (aZ l x+1+j)=if ep l x then(l.take (aZ l x)++x::(l.drop (aZ l x+1)).take j,true,true) else(l.take (aZ l x)++x::(l.drop (aZ l x)).take (j+1),true,false):=by
 obtain⟨p1,p2,p3⟩:=lL l x
 intro j
 induction j with
 |zero=>
  intro h
  have hy:l[aZ l x]?=some (l[aZ l x]'(by omega)):=List.getElem?_eq_getElem _
  rw[Nat.add_zero,kj hy,xa _ (Nat.le_refl _)]
  cases hh:ep l x with
  |true=>
   rw[lG hy] at hh
   have:=eq_not (x:=x) (y:=l[aZ l x]'(by omega)) (by simpa using hh)
   rw[yr this.1 this.2];simp
  |false=>
   rw[lG hy] at hh
   have h0:¬bw (l[aZ l x]'(by omega)) x=0:=by simpa using hh
   rw[wm (p3 _ hy) (sy (p3 _ hy) h0)]
   have:(l.drop (aZ l x)).take (0+1)=[l[aZ l x]'(by omega)]:=by
    rw[Nat.zero_add,List.take_one,List.head?_drop,hy];rfl
   rw[this];simp
 |succ j ih=>
  intro h
  have hy:l[aZ l x+1+j]?=some (l[aZ l x+1+j]'(by omega)):=List.getElem?_eq_getElem _
  have hp:l[aZ l x]?=some (l[aZ l x]'(by omega)):=List.getElem?_eq_getElem _
  have hxy:bw x (l[aZ l x+1+j]'(by omega))<0:=by
   have h1:=sY hr _ _ _ _ (show aZ l x<aZ l x+1+j by omega) hp hy
   by_cases h0:bw (l[aZ l x]'(by omega)) x=0
   ·rw[(vu h0 _).2];exact h1
   ·exact rk (sy (p3 _ hp) h0) h1
  rw[←Nat.add_assoc,kj hy,ih (by omega)]
  cases hh:ep l x with
  |true=>
   rw[if_pos rfl,if_pos rfl,uq hxy]
   have e:(l.drop (aZ l x+1))[j]?=some (l[aZ l x+1+j]'(by omega)):=by rw[List.getElem?_drop];exact hy
   rw[cp e];simp
  |false=>
   rw[if_neg (by simp),if_neg (by simp),uq hxy]
   have e:(l.drop (aZ l x))[j+1]?=some (l[aZ l x+1+j]'(by omega)):=by rw[List.getElem?_drop,←hy];congr 1;omega
   rw[cp e];simp
theorem CE{l:List Lm}{x:Lm}(hr:bX l=true):(jX l x l.length).2.2=ep l x∧
 (if(jX l x l.length).2.1 then(jX l x l.length).1 else(jX l x l.length).1++[x])=(if ep l x then l.set (aZ l x) x else l.take (aZ l x)++x::l.drop (aZ l x)):=by
 obtain⟨p1,p2,p3⟩:=lL l x
 rcases Nat.lt_or_ge (aZ l x) l.length with h|h
 ·have:=Wh (x:=x) hr (l.length-(aZ l x+1)) (by omega)
  rw[show aZ l x+1+(l.length-(aZ l x+1))=l.length by omega] at this
  rw[this]
  cases hh:ep l x with
  |true=>
   rw[if_pos rfl]
   refine⟨rfl,?_⟩
   rw[if_pos rfl,if_pos rfl,List.take_of_length_le (l:=l.drop (aZ l x+1)) (by rw[List.length_drop];omega),List.set_eq_take_append_cons_drop,if_pos h]
  |false=>
   rw[if_neg (by simp)]
   refine⟨rfl,?_⟩
   rw[if_pos rfl,if_neg (by simp),List.take_of_length_le (l:=l.drop (aZ l x)) (by rw[List.length_drop];omega)]
 ·have e:aZ l x=l.length:=by omega
  rw[xa l.length (by omega),sO h]
  refine⟨rfl,?_⟩
  rw[if_neg (by simp),if_neg (by simp),e,List.take_of_length_le (Nat.le_refl _),List.drop_of_length_le (Nat.le_refl _)]
theorem RT{l:List Lm}{x:Lm}(h:¬(cT l x).2=0):(cT l x).1=l:=by
 unfold cT at h ⊢
 split
 ·rename_i h1
  rw[if_pos h1] at h
  split
  ·rename_i y hy
   rw[hy] at h
   dsimp only at h
   split
   ·rename_i h2;rw[if_pos h2] at h;exact absurd rfl h
   ·rename_i h2
    rw[if_neg h2] at h
    split
    ·rfl
    ·rename_i h3;rw[if_neg h3] at h;exact absurd rfl h
  ·rename_i hy
   rw[hy] at h
   dsimp only at h
   split
   ·rfl
   ·rename_i h3;rw[if_neg h3] at h;exact absurd rfl h
 ·rfl
end Go.Bk
end
section
namespace Go.Proofs.YtajeeghgiilhiaaGreat
open Go Go.Abs Go.RowKit Go.Bk
section
variable{l m:List Lm}{x:Lm}{pt th:Bool}(hr:bX l=true)(hm:dW x=true)(h:th=ep l x∧(if pt=true then m else m++[x])=(if ep l x=true then l.set (aZ l x) x else l.take (aZ l x)++x::l.drop (aZ l x)))
include hr hm h
theorem XP(ht:th=true):cT l x=(if pt=true then m else m++[x],0):=by
 have e:ep l x=true:=h.1.symm.trans ht
 rw[uS hr hm e,h.2,if_pos e]
theorem WW(ht:th=false)(h32:32≤l.length):cT l x=(l,5):=
 sQ hr hm (h.1.symm.trans ht) (by have:=(jC.1 hr).1;omega)
theorem Q8(ht:th=false)(h32:¬32≤l.length):cT l x=(if pt=true then m else m++[x],0):=by
 have e:ep l x=false:=h.1.symm.trans ht
 rw[tj hr hm e (by omega),h.2,if_neg (by rw[e];simp)]
end
theorem P4(l:List Lm)(x:Lm)(hl:l.length≤9223372036854775807)(hs:∀x∈l,x.acc.length≤9223372036854775807∧x.sym.length≤9223372036854775807)(h1:x.acc.length≤9223372036854775807)(h2:x.sym.length≤9223372036854775807):ae E 178 [bL l,bd x] (fun r t=>r= .ax [bL (cT l x).1,i64 (cT l x).2]∧t=[]):=by
 refine ae.av (n:=76) (rs:=[.tmp 4,.tmp 5]) Tryz.func178 rfl Tryz.ntmps178 rfl ?_
 repeat'(first
 |refine aa.ab fun K hK=>?_
 |(
  refine aa.here 8 25 11 rfl ?_
  obtain⟨y,hy⟩:∃y,l[i]?=some y:=⟨_,List.getElem?_eq_getElem (by omega)⟩
  refine aa.bc [0,1,2,3,4,5,6,7,8,9,10] [] (by kernel_rfl) (by kernel_rfl) rfl ?_;simp only[go_sem])
 |(
  refine aa.here 14 61 2 rfl ?_
  obtain rfl:i=l.length:=by omega
  have hra:=CE (x:=x) hr
  rw[g3] at hra
  refine aa.region ?_;simp only[go_sem])
 |(refine aa.region ?_;simp only[go_sem])
 |(refine aa.here 11 40 14 rfl ?_;refine aa.bc [0,1,2,3,4,5,6,7,8,9,10,11,12,13] [] (by kernel_rfl) (by kernel_rfl) rfl ?_;simp only[go_sem])
 |(refine hK _ ?_;clear hK K)
 |refine aa.block ?_
 |refine aa.cond rfl (fun c=>?_) (fun c=>?_)<;>first|exact Bool.noConfusion c|(try simp only[dD] at c)
 |refine aa.skip ?_
 |(refine aa.exit ?_;simp only[go_sem])
 |(refine ah.one (sD l hl hs) (by kernel_rfl) rfl ?_;simp only[go_sem])
 |(refine ah.one (wc x h1 h2) (by kernel_rfl) rfl ?_;simp only[go_sem])
 |(refine ah.one (ug y x) (by kernel_rfl) rfl ?_;simp only[go_sem])
 |(refine ah.one (ug x y) (by kernel_rfl) rfl ?_;simp only[go_sem])
 |(refine aH.bY (fun h=>?_) (fun h=>?_)<;>simp only[h,go_sem]<;>(try simp only[dD] at h))
 |(refine aH.split (fun h=>?_) (fun h=>?_)<;>simp only[h,go_sem]<;>(try simp only[dD] at h))
 |(refine aG.bA (by assumption) ?_;(try simp only[go_sem]))
 |((with_reducible refine And.intro ?_ ?_);(focus(first|omega|(simp;done)));(try simp only[hb,go_sem]))
 |(
  refine aa.here 6 19 4 rfl ?_
  have hr:bX l=true:=by simp_all
  have hmx:dW x=true:=by simp_all
  have h32:=(jC.1 hr).1
  refine aa.fb 6 6 rfl ?_
  simp only[go_sem]
  refine aa.b6 (ι:=Nat×List Lm×Bool×Bool) [19,20,21,22,23,24,25,26,27,28,29,30,31,32,33,34,35,36,37,38,39,40,41,42,43,44,45,46,47,48,49,50,51,52,53,54,55,56,57,58,59,60] (fun⟨i,m,pt,th⟩=>[(9,i64 i),(6,.sl (some 0) 6 (m.map bd)),(7,bl pt),(8,bl th)]) (fun⟨i,m,pt,th⟩=>[some [bd x]]) (fun⟨i,m,pt,th⟩=>[m.length]) (fun⟨i,m,pt,th⟩=>i≤l.length∧m.length≤2*i∧jX l x i=(m,pt,th)) (fun⟨i,m,pt,th⟩=>l.length-i) ((0,[],false,false)) ?_ ?_ ?_
  ·(try simp only[go_sem]);(repeat'(exact .inr (aM rfl)));done
  ·exact⟨Nat.zero_le _,Nat.zero_le _,rfl⟩
  rintro⟨i,m,pt,th⟩ ⟨g1,g2,g3⟩
  simp only[go_sem]
  cases pt)
 |(
  first
  |(have hs9:fB x (m,false,th) y=(m++[x]++[y],true,th):=by(exact wm (by assumption) (by assumption))
    refine⟨(i+1,m++[x]++[y],true,th),?_,⟨by show i+1≤l.length;omega,by show(m++[x]++[y]:List Lm).length≤2*(i+1);(try simp only[List.length_append,List.length_cons,List.length_nil]);omega,by rw[kj hy,g3];exact hs9⟩,by show l.length-(i+1)<l.length-i;omega⟩
    (try simp only[go_sem]);(try rw[aq (by omega) (by omega)]);(repeat'(first|refine And.intro ?_ ?_|exact .inr rfl|trivial|exact .inr (aM rfl)|(simp;done)));done)
  |(have hs9:fB x (m,false,th) y=(m++[x],true,true):=by(exact yr (by assumption) (by assumption))
    refine⟨(i+1,m++[x],true,true),?_,⟨by show i+1≤l.length;omega,by show(m++[x]:List Lm).length≤2*(i+1);(try simp only[List.length_append,List.length_cons,List.length_nil]);omega,by rw[kj hy,g3];exact hs9⟩,by show l.length-(i+1)<l.length-i;omega⟩
    (try simp only[go_sem]);(try rw[aq (by omega) (by omega)]);(repeat'(first|refine And.intro ?_ ?_|exact .inr rfl|trivial|exact .inr (aM rfl)|(simp;done)));done)
  |(have hs9:fB x (m,false,th) y=(m++[y],false,th):=by(exact uK (by assumption))
    refine⟨(i+1,m++[y],false,th),?_,⟨by show i+1≤l.length;omega,by show(m++[y]:List Lm).length≤2*(i+1);(try simp only[List.length_append,List.length_cons,List.length_nil]);omega,by rw[kj hy,g3];exact hs9⟩,by show l.length-(i+1)<l.length-i;omega⟩
    (try simp only[go_sem]);(try rw[aq (by omega) (by omega)]);(repeat'(first|refine And.intro ?_ ?_|exact .inr rfl|trivial|exact .inr (aM rfl)|(simp;done)));done)
  |(have hs9:fB x (m,true,th) y=(m++[y],true,th):=by(exact uK (by assumption))
    refine⟨(i+1,m++[y],true,th),?_,⟨by show i+1≤l.length;omega,by show(m++[y]:List Lm).length≤2*(i+1);(try simp only[List.length_append,List.length_cons,List.length_nil]);omega,by rw[kj hy,g3];exact hs9⟩,by show l.length-(i+1)<l.length-i;omega⟩
    (try simp only[go_sem]);(try rw[aq (by omega) (by omega)]);(repeat'(first|refine And.intro ?_ ?_|exact .inr rfl|exact .inr (aM rfl)|(simp;done)));done)
  |(have hs9:fB x (m,true,th) y=(m++[y],true,th):=by(exact uq (by assumption))
    refine⟨(i+1,m++[y],true,th),?_,⟨by show i+1≤l.length;omega,by show(m++[y]:List Lm).length≤2*(i+1);(try simp only[List.length_append,List.length_cons,List.length_nil]);omega,by rw[kj hy,g3];exact hs9⟩,by show l.length-(i+1)<l.length-i;omega⟩
    (try simp only[go_sem]);(try rw[aq (by omega) (by omega)]);(repeat'(first|refine And.intro ?_ ?_|exact .inr rfl|exact .inr (aM rfl)|(simp;done)));done)
  |(have hs9:fB x (m,true,th) y=(m,true,true):=by(exact Wa (by assumption) (by assumption))
    refine⟨(i+1,m,true,true),?_,⟨by show i+1≤l.length;omega,by show(m:List Lm).length≤2*(i+1);(try simp only[List.length_append,List.length_cons,List.length_nil]);omega,by rw[kj hy,g3];exact hs9⟩,by show l.length-(i+1)<l.length-i;omega⟩
    (try simp only[go_sem]);(try rw[aq (by omega) (by omega)]);(repeat'(first|refine And.intro ?_ ?_|exact .inr rfl|exact .inr (aM rfl)));done))
 |(
  refine aa.ret ?_
  refine az.is ?_;simp only[go_sem,aB,aE,aF,aA,aC,aD]<;>(first|(rw[qd (fun e=>by simp_all)];exact⟨rfl,rfl⟩)|(rw[XP hr hmx hra (by assumption)];simp;done)|(rw[WW hr hmx hra (by assumption) (by omega)];exact⟨rfl,rfl⟩)|(rw[Q8 hr hmx hra (by assumption) (by omega)];simp;done)))
 |refine aa.fin (by assumption) ?_)
theorem Se{g:Gt}{x:Lm}(h:bf g=true):eT g x=(⟨g.ak,(cT g.aP x).1,g.kill,g.now,g.pat⟩,(cT g.aP x).2):=by
 by_cases h2:(cT g.aP x).2=0
 ·rw[wJ h h2,h2]
 ·rw[An h h2,RT h2]
theorem JJ(g:Gt)(x:Lm)(hg:iH g)(hlm:dP g.aP)(h1:x.acc.length≤9223372036854775807)(h2:x.sym.length≤9223372036854775807):ae E 118 [aL g,bd x] (fun r t=>r= .ax [aL (eT g x).1,i64 (eT g x).2]∧t=[]):=by
 refine ae.av (n:=23) (rs:=[.cell 4 58,.tmp 5]) Tryz.func118 rfl Tryz.ntmps118 rfl ?_
 repeat'(first
 |refine aa.ab fun K hK=>?_
 |(refine aa.region ?_;simp only[go_sem])
 |(refine hK _ ?_;clear hK K)
 |refine aa.cond rfl (fun c=>?_) (fun c=>?_)<;>(try simp only[dD] at c)
 |refine aa.skip ?_
 |(refine ah.one (mL g hg hlm) (by kernel_rfl) rfl ?_;simp only[go_sem])
 |(refine ah.one (P4 g.aP x hg.2.1 hlm h1 h2) (by kernel_rfl) rfl ?_;simp only[go_sem])
 |(
  refine aa.ret ?_
  refine az.is ?_;simp only[go_sem,aB,aE,aF,aA,aC,aD]<;>(first|(rw[yS (by assumption)];simp;done)|(rw[Se (by assumption)];simp;done))))
theorem yv{g:Gt}(h:bf g=true):dP g.aP:=fun x hx=>by
 have:=(jC.1 (l8 h).2.2.1).2.1 x hx
 simp only[dW,gK,Bool.and_eq_true,decide_eq_true_eq] at this
 omega
theorem XZ(g:Gt)(n:Int)(x:Ex)(hg:bO g)(hlm:dP g.aP)(hxo:hP x):ae E 114 [aL g,i64 n,an x] (fun r t=>r= .ax [aL (cj g n x).1,i64 (cj g n x).2.1,i64 (cj g n x).2.2]∧t=[]):=by
 cases ha:ba g n with
 |false=>
  have h:=J0 g n x hg hlm ha
  rw[uX ha];exact h
 |true=>
  obtain⟨k,w,rfl,hx0⟩:=gw ha
  obtain⟨nb,kk,hcf⟩:∃nb kk,aY w.book x=(nb,kk):=⟨_,_,rfl⟩
  have hr:=Js (b:=w.book) (x:=x)
  rw[hcf] at hr
  have hr1:0≤kk:=hr.1
  have hr2:kk≤4:=hr.2
  by_cases h0:kk=0
  ·subst h0;exact EI g k w x hg hlm hx0 ha hxo nb hcf
  ·exact NT g k w x hg hlm hx0 ha hxo nb kk h0 ⟨by omega,hr2⟩ hcf (Dq (iB (ju ha hx0)).1 hcf)
theorem UN(g:Gt)(a:Ac)(hg:bO g)(hlm:dP g.aP)(hk:0≤a.kind)(hm:0≤a.more∧a.more<256)(hx:hP a.ex)(hl1:a.lim.acc.length≤9223372036854775807)(hl2:a.lim.sym.length≤9223372036854775807)(hj:a.kind%8=0):ae E 44 [aL g,eJ a] (fun r t=>r= .ax [aL (bj g a).1,i64 (bj g a).2.1,i64 (bj g a).2.2]∧t=[]):=by
 have hw:a.kind.tmod 8=0:=(Int.tmod_eq_emod_of_nonneg hk).trans hj
 refine ae.av (n:=103) (rs:=[.cell 4 58,.tmp 5,.tmp 6]) Tryz.func44 rfl Tryz.ntmps44 rfl ?_
 repeat'(first
 |refine aa.ab fun K hK=>?_
 |(refine aa.region ?_;simp only[go_sem,hw])
 |(refine hK _ ?_;clear hK K)
 |refine aa.block ?_
 |refine aa.cond rfl (fun c=>?_) (fun c=>?_)<;>first|exact Bool.noConfusion c|(try simp only[dD] at c)
 |(refine ah.one (Mj g a.dZ a.ord hg hlm) (by kernel_rfl) rfl ?_;simp only[go_sem,hw])
 |(
  refine aa.ret ?_
  refine az.is ?_;simp only[go_sem,aB,aE,aF,aA,aC,aD]<;>((simp[yn hj];done))))
theorem EK(g:Gt)(a:Ac)(hg:bO g)(hlm:dP g.aP)(hk:0≤a.kind)(hm:0≤a.more∧a.more<256)(hx:hP a.ex)(hl1:a.lim.acc.length≤9223372036854775807)(hl2:a.lim.sym.length≤9223372036854775807)(hj:a.kind%8=1):ae E 44 [aL g,eJ a] (fun r t=>r= .ax [aL (bj g a).1,i64 (bj g a).2.1,i64 (bj g a).2.2]∧t=[]):=by
 have hw:a.kind.tmod 8=1:=(Int.tmod_eq_emod_of_nonneg hk).trans hj
 refine ae.av (n:=103) (rs:=[.cell 4 58,.tmp 5,.tmp 6]) Tryz.func44 rfl Tryz.ntmps44 rfl ?_
 repeat'(first
 |refine aa.ab fun K hK=>?_
 |(refine aa.region ?_;simp only[go_sem,hw])
 |(refine hK _ ?_;clear hK K)
 |refine aa.block ?_
 |refine aa.cond rfl (fun c=>?_) (fun c=>?_)<;>first|exact Bool.noConfusion c|(try simp only[dD] at c)
 |(refine ah.one (Vl g a.dZ a.id a.ord.id a.ord.al a.ord.aw hg hlm) (by kernel_rfl) rfl ?_;simp only[go_sem,hw])
 |(
  refine aa.ret ?_
  refine az.is ?_;simp only[go_sem,aB,aE,aF,aA,aC,aD]<;>((simp[do_1 hj];done))))
theorem Ej(g:Gt)(a:Ac)(hg:bO g)(hlm:dP g.aP)(hk:0≤a.kind)(hm:0≤a.more∧a.more<256)(hx:hP a.ex)(hl1:a.lim.acc.length≤9223372036854775807)(hl2:a.lim.sym.length≤9223372036854775807)(hj:a.kind%8=2):ae E 44 [aL g,eJ a] (fun r t=>r= .ax [aL (bj g a).1,i64 (bj g a).2.1,i64 (bj g a).2.2]∧t=[]):=by
 have hw:a.kind.tmod 8=2:=(Int.tmod_eq_emod_of_nonneg hk).trans hj
 refine ae.av (n:=103) (rs:=[.cell 4 58,.tmp 5,.tmp 6]) Tryz.func44 rfl Tryz.ntmps44 rfl ?_
 repeat'(first
 |refine aa.ab fun K hK=>?_
 |(refine aa.region ?_;simp only[go_sem,hw])
 |(refine hK _ ?_;clear hK K)
 |refine aa.block ?_
 |refine aa.cond rfl (fun c=>?_) (fun c=>?_)<;>first|exact Bool.noConfusion c|(try simp only[dD] at c)
 |(refine ah.one (XZ g a.dZ a.ex hg hlm hx) (by kernel_rfl) rfl ?_;simp only[go_sem,hw])
 |(
  refine aa.ret ?_
  refine az.is ?_;simp only[go_sem,aB,aE,aF,aA,aC,aD]<;>((simp[w7 hj];done))))
theorem S8(g:Gt)(a:Ac)(hg:bO g)(hlm:dP g.aP)(hk:0≤a.kind)(hm:0≤a.more∧a.more<256)(hx:hP a.ex)(hl1:a.lim.acc.length≤9223372036854775807)(hl2:a.lim.sym.length≤9223372036854775807)(hj:a.kind%8=3):ae E 44 [aL g,eJ a] (fun r t=>r= .ax [aL (bj g a).1,i64 (bj g a).2.1,i64 (bj g a).2.2]∧t=[]):=by
 have hw:a.kind.tmod 8=3:=(Int.tmod_eq_emod_of_nonneg hk).trans hj
 refine ae.av (n:=103) (rs:=[.cell 4 58,.tmp 5,.tmp 6]) Tryz.func44 rfl Tryz.ntmps44 rfl ?_
 repeat'(first
 |refine aa.ab fun K hK=>?_
 |(refine aa.region ?_;simp only[go_sem,hw])
 |(refine aa.here 11 65 12 rfl ?_;refine aa.bc [0,1,2,3,4,5,6,7,8,9,10,11] [] (by kernel_rfl) (by kernel_rfl) rfl ?_;simp only[go_sem,hw])
 |(refine hK _ ?_;clear hK K)
 |refine aa.block ?_
 |refine aa.cond rfl (fun c=>?_) (fun c=>?_)<;>first|exact Bool.noConfusion c|(try simp only[dD] at c)
 |(refine ah.one (x8 g.now a.more hm) (by kernel_rfl) rfl ?_;simp only[go_sem,hw])
 |(refine ah.one (KV g (lu g.now a.more) hg.fit hlm) (by kernel_rfl) rfl ?_;simp only[go_sem,hw])
 |(
  refine aa.ret ?_
  refine az.is ?_;simp only[go_sem,aB,aE,aF,aA,aC,aD]<;>((simp[xx hj];done))))
theorem I6(g:Gt)(a:Ac)(hg:bO g)(hlm:dP g.aP)(hk:0≤a.kind)(hm:0≤a.more∧a.more<256)(hx:hP a.ex)(hl1:a.lim.acc.length≤9223372036854775807)(hl2:a.lim.sym.length≤9223372036854775807)(hj:a.kind%8=4):ae E 44 [aL g,eJ a] (fun r t=>r= .ax [aL (bj g a).1,i64 (bj g a).2.1,i64 (bj g a).2.2]∧t=[]):=by
 have hw:a.kind.tmod 8=4:=(Int.tmod_eq_emod_of_nonneg hk).trans hj
 refine ae.av (n:=103) (rs:=[.cell 4 58,.tmp 5,.tmp 6]) Tryz.func44 rfl Tryz.ntmps44 rfl ?_
 repeat'(first
 |refine aa.ab fun K hK=>?_
 |(refine aa.region ?_;simp only[go_sem,hw])
 |(refine hK _ ?_;clear hK K)
 |refine aa.block ?_
 |refine aa.cond rfl (fun c=>?_) (fun c=>?_)<;>first|exact Bool.noConfusion c|(try simp only[dD] at c)
 |refine aa.skip ?_
 |(refine ah.one (mL g hg.fit hlm) (by kernel_rfl) rfl ?_;simp only[go_sem,hw])
 |(
  refine aa.ret ?_
  refine az.is ?_;simp only[go_sem,aB,aE,aF,aA,aC,aD]<;>((rw[zZ hj];first|(rw[uJ (by assumption)];simp;done)|(rw[B0 (by assumption)];simp;done)))))
theorem Md(g:Gt)(a:Ac)(hg:bO g)(hlm:dP g.aP)(hk:0≤a.kind)(hm:0≤a.more∧a.more<256)(hx:hP a.ex)(hl1:a.lim.acc.length≤9223372036854775807)(hl2:a.lim.sym.length≤9223372036854775807)(hj:a.kind%8=5):ae E 44 [aL g,eJ a] (fun r t=>r= .ax [aL (bj g a).1,i64 (bj g a).2.1,i64 (bj g a).2.2]∧t=[]):=by
 have hw:a.kind.tmod 8=5:=(Int.tmod_eq_emod_of_nonneg hk).trans hj
 refine ae.av (n:=103) (rs:=[.cell 4 58,.tmp 5,.tmp 6]) Tryz.func44 rfl Tryz.ntmps44 rfl ?_
 repeat'(first
 |refine aa.ab fun K hK=>?_
 |(refine aa.region ?_;simp only[go_sem,hw])
 |(refine hK _ ?_;clear hK K)
 |refine aa.block ?_
 |refine aa.cond rfl (fun c=>?_) (fun c=>?_)<;>first|exact Bool.noConfusion c|(try simp only[dD] at c)
 |(refine ah.one (Qy g a.dZ a.on hg hlm) (by kernel_rfl) rfl ?_;simp only[go_sem,hw])
 |(
  refine aa.ret ?_
  refine az.is ?_;simp only[go_sem,aB,aE,aF,aA,aC,aD]<;>((simp[Ab hj];done))))
theorem Px(g:Gt)(a:Ac)(hg:bO g)(hlm:dP g.aP)(hk:0≤a.kind)(hm:0≤a.more∧a.more<256)(hx:hP a.ex)(hl1:a.lim.acc.length≤9223372036854775807)(hl2:a.lim.sym.length≤9223372036854775807)(hj:a.kind%8=6):ae E 44 [aL g,eJ a] (fun r t=>r= .ax [aL (bj g a).1,i64 (bj g a).2.1,i64 (bj g a).2.2]∧t=[]):=by
 have hw:a.kind.tmod 8=6:=(Int.tmod_eq_emod_of_nonneg hk).trans hj
 refine ae.av (n:=103) (rs:=[.cell 4 58,.tmp 5,.tmp 6]) Tryz.func44 rfl Tryz.ntmps44 rfl ?_
 repeat'(first
 |refine aa.ab fun K hK=>?_
 |(refine aa.region ?_;simp only[go_sem,hw])
 |(refine hK _ ?_;clear hK K)
 |refine aa.block ?_
 |refine aa.cond rfl (fun c=>?_) (fun c=>?_)<;>first|exact Bool.noConfusion c|(try simp only[dD] at c)
 |(refine ah.one (Hw g a.dZ hg hlm) (by kernel_rfl) rfl ?_;simp only[go_sem,hw])
 |(
  refine aa.ret ?_
  refine az.is ?_;simp only[go_sem,aB,aE,aF,aA,aC,aD]<;>((simp[yW hj];done))))
theorem Qt(g:Gt)(a:Ac)(hg:bO g)(hlm:dP g.aP)(hk:0≤a.kind)(hm:0≤a.more∧a.more<256)(hx:hP a.ex)(hl1:a.lim.acc.length≤9223372036854775807)(hl2:a.lim.sym.length≤9223372036854775807)(hj:a.kind%8=7):ae E 44 [aL g,eJ a] (fun r t=>r= .ax [aL (bj g a).1,i64 (bj g a).2.1,i64 (bj g a).2.2]∧t=[]):=by
 have hw:a.kind.tmod 8=7:=(Int.tmod_eq_emod_of_nonneg hk).trans hj
 refine ae.av (n:=103) (rs:=[.cell 4 58,.tmp 5,.tmp 6]) Tryz.func44 rfl Tryz.ntmps44 rfl ?_
 repeat'(first
 |refine aa.ab fun K hK=>?_
 |(refine aa.region ?_;simp only[go_sem,hw])
 |(refine hK _ ?_;clear hK K)
 |refine aa.block ?_
 |refine aa.cond rfl (fun c=>?_) (fun c=>?_)<;>first|exact Bool.noConfusion c|(try simp only[dD] at c)
 |(refine ah.one (JJ g a.lim hg.fit hlm hl1 hl2) (by kernel_rfl) rfl ?_;simp only[go_sem,hw])
 |(
  refine aa.ret ?_
  refine az.is ?_;simp only[go_sem,aB,aE,aF,aA,aC,aD]<;>((simp[B6 hj];done))))
end Go.Proofs.YtajeeghgiilhiaaGreat
end
section
namespace Go.Bk
open Go Go.Abs
def Gz:Gt:=⟨[zeroV],[],false,0,100⟩
theorem Fa:kC 1 100=(Gz,0):=rfl
section
variable{au:Bool}{q p f:Int}(hq:1≤q∧q≤1073741824)(hp:0≤p∧p≤999)
end
end Go.Bk
end
section
namespace Go.Proofs.YtajeeghgiilhiaaGreat
open Go Go.Abs Go.RowKit Go.Bk
def nY(g:Gt)(a s:Bs):Ws:=if bf g then jo g a s else(0,0)
theorem Rh(g:Gt)(a s:Bs)(hg:iH g):ae E 31 [aL g,str a,str s] (fun r t=>r=wV (nY g a s)∧t=[]):=OB g a s hg
theorem tz{v:Vn}{x:List Lm}{b:Bool}{n p:Int}(h:oA v)(hx:x.length≤1000000):bO ⟨[v],x,b,n,p⟩:=by
 refine⟨by simp,hx,fun w hw=>?_⟩
 simp only[List.mem_singleton] at hw
 subst hw;exact h
def Lw:Lm:=⟨[97],[115],10,0,10,1000⟩
def nk:Gt:=⟨[zeroV],[Lw],false,0,100⟩
abbrev Ow(id:Bs)(q:Int):Od:=⟨id,[97],[115],true,q,5,0,false⟩
def jz:Gt:=⟨[⟨me,[⟨[111],[97],[115],true,7,5,0,true⟩],0,false⟩],[Lw],false,0,100⟩
theorem w5:oA zeroV:=by refine⟨?_,?_,?_,?_⟩<;>decide
theorem KZ:bO Gz:=tz w5 (by decide)
theorem V8:bO nk:=tz w5 (by decide)
theorem xY:bO jz:=tz (by refine⟨?_,?_,?_,?_⟩<;>decide) (by decide)
theorem XY  :ae E 27 [i64 1,i64 100] (fun r t=>r= .ax [aL Gz,i64 0]∧t=[]):=by
 have h:=Ak 1 100
 rw[Fa] at h;exact h
theorem Kq  :ae E 28 [aL Gz,bd Lw] (fun r t=>r= .ax [aL nk,i64 0]∧t=[]):=by
 have h:=zU Gz Lw KZ (WM Lw)
 rw[show eT Gz Lw=(nk,0) from rfl] at h;exact h
theorem EF  :ae E 29 [aL nk,i64 0,aW (Ow [111] 7)] (fun r t=>r= .ax [aL jz,i64 0,i64 0]∧t=[]):=by
 have h:=tL nk 0 (Ow [111] 7) V8
 rw[show eC nk 0 (Ow [111] 7)=(jz,0,0) from rfl] at h;exact h
theorem XI  :ae E 29 [aL jz,i64 0,aW (Ow [112] 4)] (fun r t=>r= .ax [aL jz,i64 4,i64 0]∧t=[]):=by
 have h:=tL jz 0 (Ow [112] 4) xY
 rw[show eC jz 0 (Ow [112] 4)=(jz,4,0) from rfl] at h;exact h
theorem Vb  :ae E 31 [aL jz,str [97],str [115]] (fun r t=>r=wV (7,0)∧t=[]):=by
 have h:=Rh jz [97] [115] xY.fit
 rw[show nY jz [97] [115]=(7,0) from rfl] at h;exact h
theorem RK  :ae E 26 [] (fun r t=>r=bl true∧t=[]):=by
 refine ae.av (n:=65) (rs:=[.tmp 0]) Tryz.func26 rfl Tryz.ntmps26 rfl ?_
 repeat'(first
 |refine aa.ab fun K hK=>?_
 |(refine aa.region ?_;simp only[go_sem])
 |(refine hK _ ?_;clear hK K)
 |(refine ah.one (XY) (by kernel_rfl) rfl ?_;simp only[go_sem])
 |(refine ah.one (Kq) (by kernel_rfl) rfl ?_;simp only[go_sem])
 |(refine ah.one (EF) (by kernel_rfl) rfl ?_;simp only[go_sem])
 |(refine ah.one (XI) (by kernel_rfl) rfl ?_;simp only[go_sem])
 |(refine ah.one (Vb) (by kernel_rfl) rfl ?_;simp only[go_sem])
 |(
  refine aa.ret ?_
  refine az.is ?_;simp only[go_sem,aB,aE,aF,aA,aC,aD]<;>(first|fail)))
end Go.Proofs.YtajeeghgiilhiaaGreat
end
