/- Texts of one chain, put together (Pl, Pm, Pn, Po). -/
import Derived.Test.YtajeeghgiilhiaaGreatKxD
import Derived.Test.YtajeeghgiilhiaaGreatKxA
set_option linter.unusedVariables false
set_option linter.unusedSimpArgs false
set_option maxHeartbeats 16000000
set_option maxRecDepth 8000
section
namespace Go.Bk
abbrev Bs:=List UInt8
structure Od where
 id:Bs
 acc:Bs
 sym:Bs
 az:Bool
 aq:Int
 aA:Int
 done:Int
 bq:Bool
 deriving DecidableEq
structure Ex where
 id:Bs
 ref:Bs
 ord:Bs
 acc:Bs
 sym:Bs
 kind:Int
 az:Bool
 aq:Int
 aA:Int
 time:Int
 deriving DecidableEq
structure Dn where
 id:Bs
 ord:Bs
 acc:Bs
 sym:Bs
 az:Bool
 aq:Int
 aA:Int
 time:Int
 live:Bool
 deriving DecidableEq
structure Bk where
 ak:List Od
 al:List Dn
 ids:List Bs
 clock:Int
 bad:Int
 deriving DecidableEq
def isName(c:UInt8):Bool:=(decide (65≤c.toNat)&&decide (c.toNat≤90))||(decide (97≤c.toNat)&&decide (c.toNat≤122))||(decide (48≤c.toNat)&&decide (c.toNat≤57))
def fF(s:Bs):Bool:=decide (1≤s.length)&&decide (s.length≤16)&&s.all isName
def bS(n:Int):Bool:=decide (0≤n)&&decide (n≤1099511627776)
def mq(n:Int):Bool:=decide (0≤n)&&decide (n≤4611686018427387904)
def du(x:Ex):Bool:=
 fF x.id&&fF x.ord&&fF x.acc&&fF x.sym &&
 (if x.kind=4∨x.kind=7∨x.kind=8 then fF x.ref else if x.kind=1∨x.kind=2∨x.kind=3∨x.kind=5∨x.kind=6 then decide (x.ref=[]) else false) &&
 bS x.aq&&bS x.aA&&mq x.time
def iC(s:Bs):Bool:=decide (s≠[])&&decide (s.length≤16)
def bw(o:Od):Bool:=iC o.id&&iC o.acc&&iC o.sym&&bS o.aq&&bS o.aA&&decide (0≤o.done)&&decide (o.done≤o.aq)
def b7(l:List Od)(id:Bs):Option Nat:=l.findIdx? (fun o=>decide (o.id=id))
def bW(l:List Od)(id:Bs):Int:=match b7 l id with|some n=>n|none=>-1
def jz(l:List Od)(n:Nat):Bool:=(List.range n).all fun i=>match l[i]? with|some o=>bw o&&(b7 (l.take i) o.id).isNone|none=>true
def bd(l:List Od):Bool:=decide (l.length≤64)&&jz l l.length
def gx(l:List Od)(id:Bs):Int:=match b7 l id with
 |some n=>match l[n]? with|some o=>if o.bq then n else -1|none=>-1
 |none=>-1
def dn(o:Od):Int:=if bw o&&o.bq then o.aq-o.done else 0
def eD(o:Od)(aA:Int):Bool:=bS aA&&(if o.az then decide (aA≤o.aA) else decide (o.aA≤aA))
def eW:Od:=⟨[],[],[],false,0,0,0,false⟩
def findF(l:List Od)(id:Bs):Od×Bool:=if bd l then match b7 l id with
 |some n=>(l.getD n eW,true)
 |none=>(eW,false)
 else(eW,false)
theorem bM{α:Type}{l:List α}{i:Nat}{b:α}(h:l[i]?=some b):i<l.length:=by
 rcases Nat.lt_or_ge i l.length with h'|h'
 ·exact h'
 ·rw[List.getElem?_eq_none h'] at h;simp at h
theorem cF{α:Type}{l:List α}{i:Nat}{b:α}(h:l[i]?=some b):l.take (i+1)=l.take i++[b]:=by
 have hi:i<l.length:=by
  rcases Nat.lt_or_ge i l.length with h'|h'
  ·exact h'
  ·rw[List.getElem?_eq_none h'] at h;simp at h
 rw[List.getElem?_eq_getElem hi,Option.some.injEq] at h
 rw[List.take_add_one,List.getElem?_eq_getElem hi,h];rfl
theorem kR{α:Type}{l:List α}{p:α→Bool}{i:Nat}{b:α}(h:l[i]?=some b)(h1:(l.take i).all p=true)(h2:p b=true):(l.take (i+1)).all p=true:=by
 rw[cF h,List.all_append,h1];simp[h2]
theorem xw{s:Bs}(h:¬(1≤s.length∧s.length≤16)):fF s=false:=by
 unfold fF
 by_cases h1:1≤s.length
 ·have:¬s.length≤16:=fun h2=>h ⟨h1,h2⟩
  simp[this]
 ·simp[h1]
theorem xb{s:Bs}{i:Nat}{b:UInt8}(hb:s[i]?=some b)(h:isName b=false):fF s=false:=by
 have:s.all isName=false:=by
  cases ha:s.all isName with
  |false=>rfl
  |true=>rw[List.all_eq_true.1 ha b (List.mem_of_getElem? hb)] at h;simp at h
 unfold fF;rw[this];simp
theorem Oz{s:Bs}{i:Nat}(h:1≤s.length∧s.length≤16)(hi:s.length≤i)(ha:(s.take i).all isName=true):fF s=true:=by
 rw[List.take_of_length_le hi] at ha
 unfold fF;rw[ha];simp[h.1,h.2]
end Go.Bk
namespace Go.Bk
theorem nH{l:List Od}{id:Bs}{n:Nat}(h:b7 l id=some n):∃o,l[n]?=some o∧o.id=id∧∀k o',k<n→l[k]?=some o'→o'.id≠id:=by
 unfold b7 at h
 obtain⟨hn,h1,h2⟩:=List.findIdx?_eq_some_iff_getElem.1 h
 refine⟨l[n],List.getElem?_eq_getElem hn,by simpa using h1,fun k o' hk ho=>?_⟩
 have hk':k<l.length:=by omega
 rw[List.getElem?_eq_getElem hk',Option.some.injEq] at ho
 have:=h2 k hk
 rw[ho] at this
 simpa using this
theorem WQ{l:List Od}{id:Bs}{n:Nat}{o:Od}(h1:l[n]?=some o)(h2:o.id=id)(h3:(l.take n).all (fun o=>!decide (o.id=id))=true):b7 l id=some n:=by
 have hn:n<l.length:=by
  rcases Nat.lt_or_ge n l.length with h'|h'
  ·exact h'
  ·rw[List.getElem?_eq_none h'] at h1;simp at h1
 rw[List.getElem?_eq_getElem hn,Option.some.injEq] at h1
 unfold b7
 refine List.findIdx?_eq_some_iff_getElem.2 ⟨hn,by rw[h1];simpa using h2,fun j hj=>?_⟩
 have hm:l[j]∈l.take n:=List.mem_iff_getElem?.2 ⟨j,by rw[List.getElem?_take,if_pos hj,List.getElem?_eq_getElem]⟩
 have:=List.all_eq_true.1 h3 _ hm
 simpa using this
theorem Mv{l:List Od}{id:Bs}{i:Nat}(hi:l.length≤i)(h3:(l.take i).all (fun o=>!decide (o.id=id))=true):b7 l id=none:=by
 rw[List.take_of_length_le hi] at h3
 unfold b7
 rw[List.findIdx?_eq_none_iff]
 intro x hx
 have:=List.all_eq_true.1 h3 x hx
 simpa using this
theorem GA{l:List Od}{id:Bs}{n:Nat}{o:Od}(h1:l[n]?=some o)(h2:o.id=id)(h3:(l.take n).all (fun o=>!decide (o.id=id))=true):bW l id=n:=by
 unfold bW;rw[WQ h1 h2 h3]
theorem Fq{l:List Od}{id:Bs}{i:Nat}(hi:l.length≤i)(h3:(l.take i).all (fun o=>!decide (o.id=id))=true):bW l id= -1:=by
 unfold bW;rw[Mv hi h3]
theorem jl(l:List Od)(id:Bs):(bW l id= -1∧b7 l id=none)∨∃n o,bW l id=(n:Nat)∧b7 l id=some n∧l[n]?=some o:=by
 unfold bW
 cases h:b7 l id with
 |none=>exact .inl ⟨rfl,rfl⟩
 |some n=>
  obtain⟨o,h1,_⟩:=nH h
  exact .inr ⟨n,o,rfl,rfl,h1⟩
def ik(l:List Od)(i:Nat):Bool:=match l[i]? with|some o=>bw o&&(b7 (l.take i) o.id).isNone|none=>true
theorem pN(l:List Od)(n:Nat):jz l n=(List.range n).all (ik l):=rfl
theorem wM{l:List Od}{n:Nat}(h:jz l n=true)(h2:ik l n=true):jz l (n+1)=true:=by
 rw[pN,List.range_succ,List.all_append,←pN,h];simp[h2]
theorem zn{l:List Od}(h:¬l.length≤64):bd l=false:=by unfold bd;simp[h]
theorem rS{l:List Od}{n:Nat}(hn:n<l.length)(h2:ik l n=false):bd l=false:=by
 have:jz l l.length=false:=by
  cases h:jz l l.length with
  |false=>rfl
  |true=>rw[pN] at h;rw[List.all_eq_true.1 h n (List.mem_range.2 hn)] at h2;simp at h2
 unfold bd;rw[this];simp
theorem xB{l:List Od}{n:Nat}(hl:l.length≤64)(hn:n=l.length)(h:jz l n=true):bd l=true:=by
 subst hn;unfold bd;rw[h];simp[hl]
theorem CT{l:List Od}{n:Nat}{o:Od}(h:l[n]?=some o)(h1:bw o=false):ik l n=false:=by unfold ik;rw[h];simp[h1]
theorem Vy{l:List Od}{n:Nat}{o:Od}(h:l[n]?=some o)(h1:0≤bW (l.take n) o.id):ik l n=false:=by
 unfold ik;rw[h]
 rcases jl (l.take n) o.id with⟨e,_⟩|⟨k,p,_,e,_⟩
 ·omega
 ·simp[e]
theorem E1{l:List Od}{n:Nat}{o:Od}(h:l[n]?=some o)(h1:bw o=true)(h2:¬0≤bW (l.take n) o.id):ik l n=true:=by
 unfold ik;rw[h]
 rcases jl (l.take n) o.id with⟨_,e⟩|⟨k,p,e,_,_⟩
 ·simp[h1,e]
 ·omega
end Go.Bk
namespace Go.Bk
def cP(l:List Od)(id:Bs):Option Nat:=match b7 l id with
 |some n=>if(l.getD n eW).bq then some n else none
 |none=>none
def cN(l:List Od)(o:Od):List Od×Int:=
 if bd l=false∨bw { o with bq:=true,done:=0 }=false then(l,1)
 else if(b7 l o.id).isSome then(l,7)
 else if 64≤l.length then(l,5)
 else(l++[{ o with bq:=true,done:=0 }],0)
def dE(l:List Od)(id:Bs):List Od×Int:=
 if bd l=false then(l,1) else match cP l id with
 |none=>(l,6)
 |some n=>(l.set n { l.getD n eW with bq:=false },0)
def cp(l:List Od)(id:Bs)(q p:Int):List Od×Int:=
 if bd l=false then(l,1) else match cP l id with
 |none=>(l,6)
 |some n=>
  let o:=l.getD n eW
  if q<1∨dn o<q then(l,1)
  else if eD o p=false then(l,9)
  else(l.set n { o with done:=o.done+q,bq:=decide (o.done+q<o.aq) },0)
def cm(l:List Od)(old id:Bs)(q p:Int):List Od×Int:=
 if bd l=false then(l,1) else match cP l old with
 |none=>(l,6)
 |some n=>
  let o:=l.getD n eW
  let o':={ o with id:=id,aq:=q,aA:=p,bq:=decide (o.done<q) }
  if bw o'=false then(l,1)
  else if(b7 l id).isSome then(l,7)
  else if 64≤l.length then(l,5)
  else(l.set n { o with bq:=false }++[o'],0)
theorem jq{l:List Od}{n:Nat}{o:Od}(h:l[n]?=some o):l.getD n eW=o:=by rw[List.getD_eq_getElem?_getD,h];rfl
theorem ry(l:List Od)(id:Bs):(gx l id= -1∧cP l id=none)∨∃n o,gx l id=(n:Nat)∧cP l id=some n∧l[n]?=some o∧o.bq=true:=by
 unfold gx cP
 cases h:b7 l id with
 |none=>exact .inl ⟨rfl,rfl⟩
 |some n=>
  obtain⟨o,h1,_⟩:=nH h
  simp only[h1,jq h1]
  by_cases ho:o.bq=true
  ·exact .inr ⟨n,o,by simp[ho],by simp[ho],h1,ho⟩
  ·exact .inl ⟨by simp[ho],by simp[ho]⟩
theorem Ty{l:List Od}{id:Bs}{n:Nat}{o:Od}(h:bW l id=(n:Nat))(h1:l[n]?=some o)(h2:o.bq=false):gx l id= -1:=by
 rcases jl l id with⟨e,_⟩|⟨k,p,e1,e2,e3⟩
 ·omega
 ·have:k=n:=by omega
  subst this
  unfold gx;rw[e2];simp[h1,h2]
theorem WI{l:List Od}{id:Bs}{n:Nat}{o:Od}(h:bW l id=(n:Nat))(h1:l[n]?=some o)(h2:o.bq=true):gx l id=n:=by
 rcases jl l id with⟨e,_⟩|⟨k,p,e1,e2,e3⟩
 ·omega
 ·have:k=n:=by omega
  subst this
  unfold gx;rw[e2];simp[h1,h2]
theorem RA{l:List Od}{id:Bs}(h:bW l id<0):gx l id=bW l id:=by
 rcases jl l id with⟨e,e2⟩|⟨k,p,e1,e2,e3⟩
 ·unfold gx;rw[e2,e]
 ·omega
theorem oR{l:List Od}{id:Bs}:(b7 l id).isSome=decide (0≤bW l id):=by
 rcases jl l id with⟨e,e2⟩|⟨k,p,e1,e2,e3⟩
 ·rw[e2,e];rfl
 ·rw[e2,e1];simp
theorem L7{l:List Od}{id:Bs}(h:bd l=false):findF l id=(eW,false):=by unfold findF;simp[h]
theorem xW{l:List Od}{id:Bs}(h1:bd l=true)(h:bW l id<0):findF l id=(eW,false):=by
 rcases jl l id with⟨e,e2⟩|⟨k,p,e1,e2,e3⟩
 ·unfold findF;simp[h1,e2]
 ·omega
theorem uO{l:List Od}{id:Bs}{n:Nat}{o:Od}(h1:bd l=true)(h:bW l id=(n:Nat))(h2:l[n]?=some o):findF l id=(o,true):=by
 rcases jl l id with⟨e,e2⟩|⟨k,p,e1,e2,e3⟩
 ·omega
 ·have:k=n:=by omega
  subst this
  unfold findF;simp[h1,e2,jq h2,h2]
end Go.Bk
namespace Go.Bk
theorem Bb{l:List Od}{o:Od}(h:bd l=false):(cN l o).2=1:=by unfold cN;simp[h]
theorem yM{l:List Od}{o:Od}(h:bw ⟨o.id,o.acc,o.sym,o.az,o.aq,o.aA,0,true⟩=false):(cN l o).2=1:=by unfold cN;simp[h]
theorem zj{l:List Od}{o:Od}(h1:bd l=true)(h2:bw ⟨o.id,o.acc,o.sym,o.az,o.aq,o.aA,0,true⟩=true)(h:0≤bW l o.id):(cN l o).2=7:=by unfold cN;simp[h1,h2,oR,h]
theorem Bt{l:List Od}{o:Od}(h1:bd l=true)(h2:bw ⟨o.id,o.acc,o.sym,o.az,o.aq,o.aA,0,true⟩=true)(h3:¬0≤bW l o.id)(h:64≤l.length):(cN l o).2=5:=by unfold cN;simp[h1,h2,oR,h3,h]
theorem yB{l:List Od}{o:Od}(h1:bd l=true)(h2:bw ⟨o.id,o.acc,o.sym,o.az,o.aq,o.aA,0,true⟩=true)(h3:¬0≤bW l o.id)(h:¬64≤l.length):cN l o=(l++[⟨o.id,o.acc,o.sym,o.az,o.aq,o.aA,0,true⟩],0):=by unfold cN;simp[h1,h2,oR,h3,h]
theorem Da{l:List Od}{id:Bs}(h:bd l=false):(dE l id).2=1:=by unfold dE;simp[h]
theorem Wg{l:List Od}{id:Bs}(h1:bd l=true)(h:cP l id=none):(dE l id).2=6:=by unfold dE;simp[h1,h]
theorem zc{l:List Od}{id:Bs}{n:Nat}{o:Od}(h1:bd l=true)(h:cP l id=some n)(h2:l[n]?=some o):dE l id=(l.set n ⟨o.id,o.acc,o.sym,o.az,o.aq,o.aA,o.done,false⟩,0):=by unfold dE;simp[h1,h,jq h2,h2]
theorem Bu{l:List Od}{id:Bs}{q p:Int}(h:bd l=false):(cp l id q p).2=1:=by unfold cp;simp[h]
theorem ua{l:List Od}{id:Bs}{q p:Int}(h1:bd l=true)(h:cP l id=none):(cp l id q p).2=6:=by unfold cp;simp[h1,h]
theorem qu{l:List Od}{id:Bs}{q p:Int}{n:Nat}{o:Od}(h1:bd l=true)(h:cP l id=some n)(h2:l[n]?=some o)(h3:q<1∨dn o<q):(cp l id q p).2=1:=by unfold cp;simp[h1,h,h2,h3]
theorem wU{l:List Od}{id:Bs}{q p:Int}{n:Nat}{o:Od}(h1:bd l=true)(h:cP l id=some n)(h2:l[n]?=some o)(h3:¬q<1)(h4:¬dn o<q)(h5:eD o p=false):(cp l id q p).2=9:=by unfold cp;simp[h1,h,h2,h3,h4,h5]
theorem lN{l:List Od}{id:Bs}{q p:Int}{n:Nat}{o:Od}(h1:bd l=true)(h:cP l id=some n)(h2:l[n]?=some o)(h3:¬q<1)(h4:¬dn o<q)(h5:eD o p=true):cp l id q p=(l.set n ⟨o.id,o.acc,o.sym,o.az,o.aq,o.aA,o.done+q,decide (o.done+q<o.aq)⟩,0):=by unfold cp;simp[h1,h,h2,h3,h4,h5]
theorem lU{l:List Od}{n:Nat}{o:Od}(h:bd l=true)(h2:l[n]?=some o):bw o=true:=by
 have hn:n<l.length:=by
  rcases Nat.lt_or_ge n l.length with h'|h'
  ·exact h'
  ·rw[List.getElem?_eq_none h'] at h2;simp at h2
 unfold bd at h
 simp only[Bool.and_eq_true] at h
 have:=List.all_eq_true.1 h.2 n (List.mem_range.2 hn)
 rw[h2] at this
 simp only[Bool.and_eq_true] at this
 exact this.1
theorem zB{o:Od}{q:Int}(h:bw o=true)(h3:¬q<1)(h4:¬dn o<q):0≤o.done∧1≤q∧o.done+q≤1099511627776:=by
 have hm:=h
 simp only[bw,bS,Bool.and_eq_true,decide_eq_true_eq] at hm
 by_cases ho:o.bq=true
 ·have:dn o=o.aq-o.done:=by unfold dn;simp[h,ho]
  omega
 ·have:dn o=0:=by unfold dn;simp[ho]
  omega
theorem l8{l:List Od}(h:bd l=true):l.length≤64:=by
 unfold bd at h
 simp only[Bool.and_eq_true,decide_eq_true_eq] at h
 exact h.1
theorem rO{l:List Od}{a b:Bs}{q p:Int}(h:bd l=false):(cm l a b q p).2=1:=by unfold cm;simp[h]
theorem pb{l:List Od}{a b:Bs}{q p:Int}(h1:bd l=true)(h:cP l a=none):(cm l a b q p).2=6:=by unfold cm;simp[h1,h]
theorem y5{l:List Od}{a b:Bs}{q p:Int}{n:Nat}{o:Od}(h1:bd l=true)(h:cP l a=some n)(h2:l[n]?=some o)(h3:bw ⟨b,o.acc,o.sym,o.az,q,p,o.done,decide (o.done<q)⟩=false):(cm l a b q p).2=1:=by unfold cm;simp[h1,h,h2,h3]
theorem qw{l:List Od}{a b:Bs}{q p:Int}{n:Nat}{o:Od}(h1:bd l=true)(h:cP l a=some n)(h2:l[n]?=some o)(h3:bw ⟨b,o.acc,o.sym,o.az,q,p,o.done,decide (o.done<q)⟩=true)(h4:0≤bW l b):(cm l a b q p).2=7:=by unfold cm;simp[h1,h,h2,h3,oR,h4]
theorem w7{l:List Od}{a b:Bs}{q p:Int}{n:Nat}{o:Od}(h1:bd l=true)(h:cP l a=some n)(h2:l[n]?=some o)(h3:bw ⟨b,o.acc,o.sym,o.az,q,p,o.done,decide (o.done<q)⟩=true)(h4:¬0≤bW l b)(h5:64≤l.length):(cm l a b q p).2=5:=by unfold cm;simp[h1,h,h2,h3,oR,h4,h5]
theorem zP{l:List Od}{a b:Bs}{q p:Int}{n:Nat}{o:Od}(h1:bd l=true)(h:cP l a=some n)(h2:l[n]?=some o)(h3:bw ⟨b,o.acc,o.sym,o.az,q,p,o.done,decide (o.done<q)⟩=true)(h4:¬0≤bW l b)(h5:¬64≤l.length):cm l a b q p=(l.set n ⟨o.id,o.acc,o.sym,o.az,o.aq,o.aA,o.done,false⟩++[⟨b,o.acc,o.sym,o.az,q,p,o.done,decide (o.done<q)⟩],0):=by unfold cm;simp[h1,h,h2,h3,oR,h4,h5]
theorem pR{l:List Od}{id:Bs}(h:gx l id<0):cP l id=none:=by
 rcases ry l id with⟨_,e⟩|⟨n,o,e,_⟩
 ·exact e
 ·omega
end Go.Bk
namespace Go.Bk
def dI(l:List Dn)(id:Bs):Option Nat:=l.findIdx? (fun f=>decide (f.id=id))
def fD(l:List Dn)(id:Bs):Int:=match dI l id with|some n=>n|none=>-1
def eR(l:List Bs)(id:Bs):Int:=match l.findIdx? (fun s=>decide (id=s)) with|some n=>n|none=>-1
def lI(l:List Bs)(id:Bs):Bool:=decide (0≤eR l id)
def nc:Dn:=⟨[],[],[],[],false,0,0,0,false⟩
def bQ(b:Bk)(x:Ex):Bk×Int:=match dI b.al x.ref with
 |none=>(b,6)
 |some n=>
  let f:=b.al.getD n nc
  if f.live=false∨10<x.time-f.time then(b,6)
  else if f.ord≠x.ord∨f.acc≠x.acc∨f.sym≠x.sym∨f.az≠x.az then(b,3)
  else if x.kind=7 then({ b with al:=b.al.set n { f with live:=false } },0)
  else if f.aq<x.aq then(b,4)
  else if(findF b.ak f.ord).2=false∨eD { (findF b.ak f.ord).1 with az:=f.az } x.aA=false then(b,5)
  else({ b with al:=b.al.set n { f with aq:=x.aq,aA:=x.aA } },0)
def jj(x:Ex):Dn:=⟨x.id,x.ord,x.acc,x.sym,x.az,x.aq,x.aA,x.time,true⟩
def dT(b:Bk)(x:Ex):Bk×Int:=
 let r:=cp b.ak x.ord x.aq x.aA
 if r.2=0 then({ b with ak:=r.1,al:=b.al++[jj x] },0)
 else if r.2=1 then(b,4) else if r.2=9 then(b,5) else(b,2)
def dZ(b:Bk)(x:Ex):Bk×Int:=
 let r:=cm b.ak x.ref x.ord x.aq x.aA
 if r.2=0 then({ b with ak:=r.1 },0) else if r.2=1 then(b,4) else(b,2)
def gh(x:Ex):Od:=⟨x.ord,x.acc,x.sym,x.az,x.aq,x.aA,0,false⟩
def bU(b:Bk)(x:Ex):Bk×Int:=
 if x.time<b.clock then(b,1)
 else if x.kind=1 then(let r:=cN b.ak (gh x);if r.2=0 then({ b with ak:=r.1 },0) else(b,2))
 else if x.kind=7∨x.kind=8 then bQ b x
 else
  let o:=findF b.ak (if x.kind=4 then x.ref else x.ord)
  if o.2=false∨o.1.bq=false then(b,2)
  else if o.1.acc≠x.acc∨o.1.sym≠x.sym∨o.1.az≠x.az then(b,3)
  else if x.kind=2 then dT b x
  else if x.kind=4 then dZ b x
  else(let r:=dE b.ak x.ord;if r.2=0 then({ b with ak:=r.1 },0) else(b,2))
def bX(b:Bk)(x:Ex):Bk×Int:=
 if b.bad≠0∨256≤b.ids.length then(b,4)
 else if lI b.ids x.id then(b,2)
 else
  let r:=bU { b with ids:=b.ids++[x.id] } x
  if r.2≠0 then({ r.1 with bad:=r.2 },3)
  else({ r.1 with clock:=x.time },1)
def nx:Bk:=⟨[],[],[],0,0⟩
def ir(l:List Ex):Bk:=l.foldl (fun b x=>if du x then(bX b x).1 else b) nx
theorem PI{l:List Dn}{id:Bs}{n:Nat}{o:Dn}(h1:l[n]?=some o)(h2:o.id=id)(h3:(l.take n).all (fun o=>!decide (o.id=id))=true):fD l id=n:=by
 have hn:=bM h1
 rw[List.getElem?_eq_getElem hn,Option.some.injEq] at h1
 have:dI l id=some n:=by
  unfold dI
  refine List.findIdx?_eq_some_iff_getElem.2 ⟨hn,by rw[h1];simpa using h2,fun j hj=>?_⟩
  have hm:l[j]∈l.take n:=List.mem_iff_getElem?.2 ⟨j,by rw[List.getElem?_take,if_pos hj,List.getElem?_eq_getElem]⟩
  have:=List.all_eq_true.1 h3 _ hm
  simpa using this
 unfold fD;rw[this]
theorem YZ{l:List Dn}{id:Bs}{i:Nat}(hi:l.length≤i)(h3:(l.take i).all (fun o=>!decide (o.id=id))=true):fD l id= -1:=by
 rw[List.take_of_length_le hi] at h3
 have:dI l id=none:=by
  unfold dI
  rw[List.findIdx?_eq_none_iff]
  intro x hx
  have:=List.all_eq_true.1 h3 x hx
  simpa using this
 unfold fD;rw[this]
theorem tL(l:List Dn)(id:Bs):(fD l id= -1∧dI l id=none)∨∃n o,fD l id=(n:Nat)∧dI l id=some n∧l[n]?=some o:=by
 unfold fD
 cases h:dI l id with
 |none=>exact .inl ⟨rfl,rfl⟩
 |some n=>
  obtain⟨hn,_⟩:=List.findIdx?_eq_some_iff_getElem.1 h
  exact .inr ⟨n,l[n],rfl,rfl,List.getElem?_eq_getElem hn⟩
theorem Ff{l:List Bs}{id s:Bs}{n:Nat}(h1:l[n]?=some s)(h2:id=s)(h3:(l.take n).all (fun s=>!decide (id=s))=true):eR l id=n:=by
 have hn:=bM h1
 rw[List.getElem?_eq_getElem hn,Option.some.injEq] at h1
 have:l.findIdx? (fun s=>decide (id=s))=some n:=by
  refine List.findIdx?_eq_some_iff_getElem.2 ⟨hn,by rw[h1];simpa using h2,fun j hj=>?_⟩
  have hm:l[j]∈l.take n:=List.mem_iff_getElem?.2 ⟨j,by rw[List.getElem?_take,if_pos hj,List.getElem?_eq_getElem]⟩
  have:=List.all_eq_true.1 h3 _ hm
  simpa using this
 unfold eR;rw[this]
theorem Qt{l:List Bs}{id:Bs}{i:Nat}(hi:l.length≤i)(h3:(l.take i).all (fun s=>!decide (id=s))=true):eR l id= -1:=by
 rw[List.take_of_length_le hi] at h3
 have:l.findIdx? (fun s=>decide (id=s))=none:=by
  rw[List.findIdx?_eq_none_iff]
  intro x hx
  have:=List.all_eq_true.1 h3 x hx
  simpa using this
 unfold eR;rw[this]
theorem mH{l:List Dn}{n:Nat}{o:Dn}(h:l[n]?=some o):l.getD n nc=o:=by rw[List.getD_eq_getElem?_getD,h];rfl
end Go.Bk
namespace Go.Bk
theorem UW(l:List Od)(id:Bs)(q p:Int):(cp l id q p).1.length=l.length:=by
 unfold cp
 repeat' split
 all_goals first|rfl|simp
 all_goals(repeat' split)<;>simp
theorem WM(l:List Od)(id:Bs):(dE l id).1.length=l.length:=by
 unfold dE
 repeat' split
 all_goals first|rfl|simp
theorem T0(l:List Od)(o:Od):(cN l o).1.length≤l.length+1:=by
 unfold cN
 repeat' split
 all_goals first|(simp;done)|omega
theorem Ol(l:List Od)(a b:Bs)(q p:Int):(cm l a b q p).1.length≤l.length+1:=by
 unfold cm
 split
 ·simp
 ·split
  ·simp
  ·dsimp only
   repeat' split
   all_goals first|(simp;done)|omega
def lC(b c:Bk):Prop:=c.ak.length≤b.ak.length+1∧c.al.length≤b.al.length+1∧c.ids=b.ids
theorem X1(b:Bk)(x:Ex):lC b (dT b x).1:=by
 unfold dT lC
 dsimp only
 have:=UW b.ak x.ord x.aq x.aA
 repeat' split
 all_goals simp;try omega
theorem Ri(b:Bk)(x:Ex):lC b (dZ b x).1:=by
 unfold dZ lC
 dsimp only
 have:=Ol b.ak x.ref x.ord x.aq x.aA
 repeat' split
 all_goals simp;try omega
theorem EB(b:Bk)(x:Ex):lC b (bQ b x).1:=by
 unfold bQ lC
 split
 ·simp
 ·dsimp only
  repeat' split
  all_goals simp
theorem Am(b:Bk)(x:Ex):lC b (bU b x).1:=by
 have h1:=T0 b.ak (gh x)
 have h2:=WM b.ak x.ord
 unfold bU
 dsimp only
 repeat' split
 all_goals first|exact EB b x|exact X1 b x|exact Ri b x|(unfold lC;simp;try omega)
theorem Aa(b:Bk)(x:Ex):(bX b x).1.ak.length≤b.ak.length+1∧(bX b x).1.al.length≤b.al.length+1∧(bX b x).1.ids.length≤b.ids.length+1:=by
 have h:=Am { b with ids:=b.ids++[x.id] } x
 unfold lC at h
 dsimp only at h
 unfold bX
 dsimp only
 repeat' split
 all_goals dsimp only
 ·omega
 ·omega
 ·refine⟨h.1,h.2.1,?_⟩;rw[h.2.2];simp
 ·refine⟨h.1,h.2.1,?_⟩;rw[h.2.2];simp
def mg(b:Bk):Prop:=∀f∈b.al,0≤f.time∧f.time≤4611686018427387904
theorem PG{l:List Dn}{n:Nat}{g:Dn}(h:∀f∈l,0≤f.time∧f.time≤4611686018427387904)(hg:n<l.length→g.time=(l.getD n nc).time):∀f∈l.set n g,0≤f.time∧f.time≤4611686018427387904:=by
 intro f hf
 by_cases hn:n<l.length
 ·rcases List.mem_or_eq_of_mem_set hf with h1|h1
  ·exact h f h1
  ·subst h1
   rw[hg hn,List.getD_eq_getElem?_getD,List.getElem?_eq_getElem hn]
   exact h _ (List.getElem_mem hn)
 ·rw[List.set_eq_of_length_le ab] at hf;exact h f hf
theorem Y3{b:Bk}{x:Ex}(h:mg b)(hx:0≤x.time∧x.time≤4611686018427387904):mg (bU b x).1:=by
 have ha:mg (bQ b x).1:=by
  unfold bQ
  split
  ·exact h
  ·dsimp only
   repeat' split
   all_goals first|exact h|exact PG h (fun _=>rfl)
 have hf:mg (dT b x).1:=by
  unfold dT
  dsimp only
  repeat' split
  all_goals first|exact h|skip
  intro f hf
  rcases List.mem_append.1 hf with hf|hf
  ·exact h f hf
  ·simp only[List.mem_singleton] at hf;subst hf;exact hx
 have hr:mg (dZ b x).1:=by
  unfold dZ
  dsimp only
  repeat' split
  all_goals exact h
 unfold bU
 dsimp only
 repeat' split
 all_goals first|exact ha|exact hf|exact hr|exact h
theorem Zy{b:Bk}{x:Ex}(h:mg b)(hx:0≤x.time∧x.time≤4611686018427387904):mg (bX b x).1:=by
 have h2:mg { b with ids:=b.ids++[x.id] }:=h
 have h3:=Y3 h2 hx
 unfold bX
 dsimp only
 repeat' split
 all_goals first|exact h|exact h3
def fa(b:Bk)(x:Ex):Bk:=if du x then(bX b x).1 else b
theorem pE(l:List Ex):ir l=l.foldl fa nx:=rfl
theorem Mw{l:List Ex}{i:Nat}{x:Ex}(h:l[i]?=some x):(l.take (i+1)).foldl fa nx=fa ((l.take i).foldl fa nx) x:=by
 rw[cF h,List.foldl_append];rfl
end Go.Bk
namespace Go.Bk
theorem oh{l:List Bs}{id:Bs}:lI l id=true↔id∈l:=by
 unfold lI eR
 cases h:l.findIdx? (fun s=>decide (id=s)) with
 |none=>
  rw[List.findIdx?_eq_none_iff] at h
  simp only[decide_eq_true_eq]
  constructor
  ·intro e;omega
  ·intro e;have:=h id e;simp at this
 |some n=>
  obtain⟨hn,h1,_⟩:=List.findIdx?_eq_some_iff_getElem.1 h
  simp only[decide_eq_true_eq] at h1 ⊢
  constructor
  ·intro _;rw[h1];exact List.getElem_mem hn
  ·intro _;omega
def Told(x:Ex)(b:Bk):Prop:=b.bad≠0∨256≤b.ids.length∨x.id∈b.ids
theorem vk{b:Bk}{x:Ex}(h:Told x b):(bX b x).1=b:=by
 unfold bX
 by_cases h1:b.bad≠0∨256≤b.ids.length
 ·rw[if_pos h1]
 ·rw[if_neg h1]
  have:x.id∈b.ids:=by
   rcases h with h|h|h
   ·exact absurd (.inl h) h1
   ·exact absurd (.inr h) h1
   ·exact h
  rw[if_pos (oh.2 this)]
theorem AL(b:Bk)(y:Ex)(h1:¬(b.bad≠0∨256≤b.ids.length))(h2:¬y.id∈b.ids):(bX b y).1.ids=b.ids++[y.id]:=by
 have h:=(Am { b with ids:=b.ids++[y.id] } y).2.2
 dsimp only at h
 unfold bX
 rw[if_neg h1,if_neg (fun e=>h2 (oh.1 e))]
 dsimp only
 split
 ·exact h
 ·exact h
theorem Hu(b:Bk)(x:Ex):Told x (bX b x).1:=by
 by_cases h1:Told x b
 ·rw[vk h1];exact h1
 ·have h2:¬(b.bad≠0∨256≤b.ids.length):=fun e=>h1 (by rcases e with e|e;exact .inl e;exact .inr (.inl e))
  have h3:¬x.id∈b.ids:=fun e=>h1 (.inr (.inr e))
  exact .inr (.inr (by rw[AL b x h2 h3];simp))
theorem HU{b:Bk}{x y:Ex}(h:Told x b):Told x (bX b y).1:=by
 by_cases h1:Told y b
 ·rw[vk h1];exact h
 ·have h2:¬(b.bad≠0∨256≤b.ids.length):=fun e=>h1 (by rcases e with e|e;exact .inl e;exact .inr (.inl e))
  have h3:¬y.id∈b.ids:=fun e=>h1 (.inr (.inr e))
  rcases h with h|h|h
  ·exact absurd (.inl h) h2
  ·exact absurd (.inr h) h2
  ·exact .inr (.inr (by rw[AL b y h2 h3];exact List.mem_append_left _ h))
theorem Ph{b:Bk}{x y:Ex}(h:Told x b):Told x (fa b y):=by
 unfold fa
 split
 ·exact HU h
 ·exact h
theorem PB{l:List Ex}{x:Ex}{b:Bk}(h:Told x b):Told x (l.foldl fa b):=by
 induction l generalizing b with
 |nil=>exact h
 |cons y l ih=>exact ih (Ph h)
theorem Ua{l:List Ex}{x:Ex}{b:Bk}(hx:x∈l)(he:du x=true):Told x (l.foldl fa b):=by
 induction l generalizing b with
 |nil=>simp at hx
 |cons y l ih=>
  rcases List.mem_cons.1 hx with rfl|hx
  ·refine PB (l:=l) (b:=fa b x) ?_
   unfold fa;rw[if_pos he];exact Hu b x
  ·exact ih hx
theorem Z6{m l:List Ex}{x:Ex}(h:ir m=ir l)(hx:x∈l):ir (m++[x])=ir l:=by
 rw[pE,List.foldl_append,←pE,h]
 show fa (ir l) x=_
 unfold fa
 by_cases he:du x=true
 ·rw[if_pos he];exact vk (Ua hx he)
 ·rw[if_neg he]
theorem aag{m l:List Ex}{i:Nat}{x:Ex}(h:ir m=ir (l.take i))(hx:l[i]?=some x):ir (m++[x])=ir (l.take (i+1)):=by
 rw[pE,List.foldl_append,←pE,h,pE (l.take (i+1)),Mw hx];rfl
theorem aad(l:List Ex):(ir l).ak.length≤l.length∧(ir l).al.length≤l.length∧(ir l).ids.length≤l.length:=by
 have:∀(l:List Ex) (b:Bk),(l.foldl fa b).ak.length≤b.ak.length+l.length∧(l.foldl fa b).al.length≤b.al.length+l.length∧(l.foldl fa b).ids.length≤b.ids.length+l.length:=by
  intro l
  induction l with
  |nil=>intro b;simp
  |cons x l ih=>
   intro b
   have h1:=ih (fa b x)
   have h2:(fa b x).ak.length≤b.ak.length+1∧(fa b x).al.length≤b.al.length+1∧(fa b x).ids.length≤b.ids.length+1:=by
    unfold fa
    split
    ·exact Aa b x
    ·omega
   simp only[List.foldl_cons,List.length_cons]
   omega
 have h:=this l nx
 simp only[nx,List.length_nil,Nat.zero_add] at h
 exact h
def Ug:List Ex:=[⟨[97],[],[111],[99],[115],1,true,10,5,0⟩,⟨[98],[],[111],[99],[115],2,true,4,5,0⟩,⟨[98],[],[111],[99],[115],2,true,4,5,0⟩]
theorem aaj:ir Ug=⟨[⟨[111],[99],[115],true,10,5,4,true⟩],[⟨[98],[111],[99],[115],true,4,5,0,true⟩],[[97],[98]],0,0⟩:=by decide
theorem drop_cons{α:Type}{l:List α}{i:Nat}{x:α}(h:l[i]?=some x):l.drop i=x::l.drop (i+1):=by
 obtain⟨hi,rfl⟩:=List.getElem?_eq_some_iff.1 h
 exact List.drop_eq_getElem_cons hi
def gA{α:Type}(p:α→Bool):Int→List α→Int
 |_,[]=>-1
 |i,x::l=>if p x then i else gA p (i+1) l
def lY{α:Type}(p:α→Bool)(l:List α):Int:=gA p 0 l
theorem zy{α:Type}(p:α→Bool):∀(l:List α) (i:Int),gA p i l=match l.findIdx? p with|some n=>i+n|none=>-1
 |[],i=>rfl
 |x::l,i=>by
  unfold gA
  rw[List.findIdx?_cons]
  by_cases h:p x=true
  ·simp[h]
  ·simp only[h,Bool.false_eq_true,if_false]
   rw[zy p l (i+1)]
   cases l.findIdx? p with
   |none=>rfl
   |some n=>simp only[Option.map_some,Int.natCast_add,Int.natCast_one];show i+1+(n:Int)=i+((n:Int)+1);omega
theorem pL{α:Type}(p:α→Bool)(l:List α):lY p l=match l.findIdx? p with|some n=>(n:Int)|none=>-1:=by
 unfold lY;rw[zy]
 cases l.findIdx? p with
 |none=>rfl
 |some n=>simp
theorem zL(l:List Od)(id:Bs):bW l id=lY (fun o=>decide (o.id=id)) l:=by rw[pL];rfl
theorem CR(l:List Dn)(id:Bs):fD l id=lY (fun o=>decide (o.id=id)) l:=by rw[pL];rfl
theorem Rh(l:List Bs)(id:Bs):eR l id=lY (fun s=>decide (id=s)) l:=by rw[pL];rfl
theorem uQ(l:List Bs)(id:Bs):eR l id=lY (fun s=>decide (s=id)) l:=by
 rw[Rh];congr 1;funext s;simp[eq_comm]
theorem Fw{α:Type}{p:α→Bool}{l:List α}:lY p l<0↔∀x∈l,p x=false:=by
 rw[pL]
 cases h:l.findIdx? p with
 |none=>simp[List.findIdx?_eq_none_iff.1 h];exact fun x hx=>by simpa using List.findIdx?_eq_none_iff.1 h x hx
 |some n=>
  obtain⟨hn,h1,_⟩:=List.findIdx?_eq_some_iff_getElem.1 h
  constructor
  ·intro h;exact absurd h (by show ¬((n:Nat):Int)<0;omega)
  ·intro h
   have:=h l[n] (List.getElem_mem hn)
   rw[this] at h1;simp at h1
theorem uF{α:Type}{p:α→Bool}{l:List α}{i:Nat}{x:α}(h:l[i]?=some x)(hp:p x=true):lY p l=i↔∀y∈l.take i,p y=false:=by
 have hi:=(List.getElem?_eq_some_iff.1 h).1
 have hx:=(List.getElem?_eq_some_iff.1 h).2
 rw[pL]
 cases hf:l.findIdx? p with
 |none=>
  have:=List.findIdx?_eq_none_iff.1 hf x (List.mem_of_getElem? h)
  rw[hp] at this;simp at this
 |some n=>
  obtain⟨hn,h1,h2⟩:=List.findIdx?_eq_some_iff_getElem.1 hf
  simp only[Int.ofNat_inj]
  constructor
  ·rintro rfl y hy
   obtain⟨k,hk⟩:=List.mem_iff_getElem?.1 hy
   rw[List.getElem?_take] at hk
   split at hk
   ·rename_i hkn
    have:=h2 k hkn
    have hk':=(List.getElem?_eq_some_iff.1 hk).2
    rw[hk'] at this;simpa using this
   ·simp at hk
  ·intro h
   rcases Nat.lt_trichotomy n i with h3|h3|h3
   ·have:l[n]∈l.take i:=List.mem_iff_getElem?.2 ⟨n,by rw[List.getElem?_take,if_pos h3,List.getElem?_eq_getElem]⟩
    have:=h _ this
    rw[h1] at this;simp at this
   ·exact h3
   ·have:=h2 i h3
    rw[hx,hp] at this;simp at this
def fP:List Bs→Bool
 |x::y::l=>decide (y=x)||fP (y::l)
 |_=>false
theorem XR(a b c:Bs)(h1:decide (a≤b)=true)(h2:decide (b≤c)=true):decide (a≤c)=true:=by
 simp only[decide_eq_true_eq] at *;exact List.le_trans h1 h2
theorem En(a b:Bs):(decide (a≤b)||decide (b≤a))=true:=by
 simp only[Bool.or_eq_true,decide_eq_true_eq];exact List.le_total a b
theorem CF:∀{l:List Bs},l.Pairwise (fun a b=>a≤b)→(fP l=false↔l.Nodup)
 |[],_=>by simp[fP]
 |[x],_=>by simp[fP]
 |x::y::l,h=>by
  have ih:=CF (List.pairwise_cons.1 h).2
  unfold fP
  rw[Bool.or_eq_false_iff,ih,List.nodup_cons (a:=x),decide_eq_false_iff_not]
  constructor
  ·rintro⟨h1,h2⟩
   refine⟨fun hx=>?_,h2⟩
   rcases List.mem_cons.1 hx with rfl|hx
   ·exact h1 rfl
   ·have h3:=(List.pairwise_cons.1 h).1 y (List.mem_cons_self ..)
    have h4:=(List.pairwise_cons.1 (List.pairwise_cons.1 h).2).1 x hx
    exact h1 (List.le_antisymm h4 h3)
  ·rintro⟨h1,h2⟩
   exact⟨fun e=>h1 (by rw[e];exact List.mem_cons_self ..),h2⟩
abbrev mD(l:List Bs):List Bs:=l.mergeSort fun x y=>decide (x≤y)
theorem yx(l:List Bs):(mD l).Pairwise (fun a b=>a≤b):=by
 have:=List.pairwise_mergeSort (le:=fun x y:Bs=>decide (x≤y)) XR En l
 exact this.imp (fun h=>by simpa using h)
theorem vR(l:List Bs):fP (mD l)=!decide l.Nodup:=by
 have h1:=CF (yx l)
 have h2:(mD l).Nodup↔l.Nodup:=(List.mergeSort_perm l _).nodup_iff
 rw[h2] at h1
 by_cases h:l.Nodup
 ·rw[h1.2 h];simp[h]
 ·cases hb:fP (mD l) with
  |true=>simp[h]
  |false=>exact absurd (h1.1 hb) h
theorem BE{l:List Bs}{x:Bs}:x∈mD l↔x∈l:=List.mem_mergeSort
def ct(b:Bk)(f:Dn):Bool:=bS f.aq&&bS f.aA&&decide (0≤f.time)&&decide (f.time≤b.clock)&&decide (f.id∈b.ids)
def fO(b:Bk):Bool:=bd b.ak&&decide (b.al.length≤256)&&decide (b.ids.length≤256)&&decide (0≤b.clock)&&decide (b.clock≤4611686018427387904)&&decide (0≤b.bad)&&decide (b.bad≤6)
def aW(b:Bk):Bool:=fO b&&decide b.ids.Nodup&&b.al.all (ct b)&&decide (b.al.map (·.id)).Nodup
def bj(b:Bk)(x:Ex):Bk×Int:=if aW b&&du x then bX b x else(b,0)
end Go.Bk
namespace Go.Bk
theorem oC{l:List Od}{id:Bs}:(b7 l id).isNone=decide (id∉l.map (·.id)):=by
 unfold b7
 cases h:l.findIdx? (fun o=>decide (o.id=id)) with
 |none=>
  have:=List.findIdx?_eq_none_iff.1 h
  simp only[Option.isNone_none]
  symm;rw[decide_eq_true_eq]
  intro hm
  obtain⟨o,ho,rfl⟩:=List.mem_map.1 hm
  have:=this o ho
  simp at this
 |some n=>
  obtain⟨hn,h1,_⟩:=List.findIdx?_eq_some_iff_getElem.1 h
  simp only[Option.isNone_some]
  symm;rw[decide_eq_false_iff_not]
  intro hm
  exact hm (List.mem_map.2 ⟨l[n],List.getElem_mem hn,by simpa using h1⟩)
theorem A5(l:List Od):∀n,n≤l.length→(jz l n=true↔(∀o∈l.take n,bw o=true)∧((l.take n).map (·.id)).Nodup)
 |0,_=>by simp[jz]
 |n+1,h=>by
  have ih:=A5 l n ab
  have hn:l[n]?=some l[n]:=List.getElem?_eq_getElem ab
  rw[pN,List.range_succ,List.all_append,←pN,Bool.and_eq_true,ih,cF hn]
  simp only[List.all_cons,List.all_nil,Bool.and_true,ik,hn,oC,Bool.and_eq_true,decide_eq_true_eq,List.map_append,List.map_cons,List.map_nil,List.nodup_append,List.mem_append,List.mem_singleton]
  constructor
  ·rintro⟨⟨h1,h2⟩,h3,h4⟩
   refine⟨fun o ho=>?_,h2,by simp,?_⟩
   ·rcases ho with ho|rfl
    ·exact h1 o ho
    ·exact h3
   ·intro a ha b hb e
    subst hb;subst e
    exact h4 ha
  ·rintro⟨h1,h2,_,h4⟩
   refine⟨⟨fun o ho=>h1 o (.inl ho),h2⟩,h1 _ (.inr rfl),fun hm=>h4 _ hm _ aD rfl⟩
theorem jO{l:List Od}:bd l=true↔l.length≤64∧(∀o∈l,bw o=true)∧(l.map (·.id)).Nodup:=by
 unfold bd
 rw[Bool.and_eq_true,decide_eq_true_eq,A5 l l.length (Nat.le_refl _),List.take_length]
theorem uq{l:List Od}{o:Od}(h:bd l=true)(h1:bw o=true)(h2:b7 l o.id=none)(h3:l.length<64):bd (l++[o])=true:=by
 rw[jO] at h ⊢
 have h4:o.id∉l.map (·.id):=by
  have:(b7 l o.id).isNone=true:=by rw[h2];rfl
  rw[oC] at this;simpa using this
 refine⟨by simp;omega,fun p hp=>?_,?_⟩
 ·rcases List.mem_append.1 hp with hp|hp
  ·exact h.2.1 p hp
  ·rw[List.mem_singleton.1 hp];exact h1
 ·rw[List.map_append,List.nodup_append]
  refine⟨h.2.2,by simp,fun a ha b hb e=>?_⟩
  simp only[List.map_cons,List.map_nil,List.mem_singleton] at hb
  subst hb;subst e;exact h4 ha
theorem mG{α β:Type}{f:α→β}{l:List α}{n:Nat}{x y:α}(h:l[n]?=some x)(e:f y=f x):(l.set n y).map f=l.map f:=by
 rw[List.map_set,e]
 apply List.ext_getElem?
 intro i
 rw[List.getElem?_set]
 split
 ·rename_i hi;subst hi
  have:=(List.getElem?_eq_some_iff.1 h).1
  have h2:=(List.getElem?_eq_some_iff.1 h).2
  simp[this,h2]
 ·rfl
theorem vc{l:List Od}{n:Nat}{o o':Od}(h:bd l=true)(hn:l[n]?=some o)(h1:bw o'=true)(h2:o'.id=o.id):bd (l.set n o')=true:=by
 rw[jO] at h ⊢
 refine⟨by simpa using h.1,fun p hp=>?_,?_⟩
 ·rcases List.mem_or_eq_of_mem_set hp with hp|rfl
  ·exact h.2.1 p hp
  ·exact h1
 ·rw[mG (f:=(·.id)) hn h2];exact h.2.2
theorem sU{o:Od}{d:Int}{b:Bool}(h:bw o=true)(h1:0≤d)(h2:d≤o.aq):bw ⟨o.id,o.acc,o.sym,o.az,o.aq,o.aA,d,b⟩=true:=by
 simp only[bw,Bool.and_eq_true,decide_eq_true_eq] at h ⊢
 simp only[h,h1,h2,and_self]
theorem oJ{l:List Od}{id:Bs}{n:Nat}(h:cP l id=some n):∃o,l[n]?=some o∧o.id=id∧o.bq=true∧l.getD n eW=o:=by
 unfold cP at h
 split at h
 ·rename_i k hk
  obtain⟨o,h1,h2,_⟩:=nH hk
  rw[jq h1] at h
  split at h
  ·simp only[Option.some.injEq] at h;subst h
   exact⟨o,h1,h2,by assumption,jq h1⟩
  ·simp at h
 ·simp at h
theorem SX{l:List Od}{o:Od}(h:(cN l o).2=0):bd (cN l o).1=true:=by
 unfold cN at h ⊢
 split at h<;>rename_i h1
 ·simp at h
 split at h<;>rename_i h2
 ·simp at h
 split at h<;>rename_i h3
 ·simp at h
 rw[if_neg h1,if_neg h2,if_neg h3]
 simp only[not_or,Bool.not_eq_false] at h1
 exact uq h1.1 h1.2 (by cases hp:b7 l o.id with|none=>rfl|some n=>simp[hp] at h2) ab
theorem X9{l:List Od}{id:Bs}(h:(dE l id).2=0):bd (dE l id).1=true:=by
 unfold dE at h ⊢
 split at h
 ·simp at h
 ·rename_i h1
  simp only[Bool.not_eq_false] at h1
  rw[if_neg (by simp[h1])]
  split at h
  ·simp at h
  ·rename_i n hn
   obtain⟨o,h2,h3,h4,h5⟩:=oJ hn
   simp only[hn,h5]
   have hm:=(jO.1 h1).2.1 o (List.mem_of_getElem? h2)
   have hd:0≤o.done∧o.done≤o.aq:=by simp only[bw,Bool.and_eq_true,decide_eq_true_eq] at hm;omega
   exact vc h1 h2 (sU hm hd.1 hd.2) rfl
theorem Pv{l:List Od}{id:Bs}{q p:Int}(h:(cp l id q p).2=0):bd (cp l id q p).1=true:=by
 unfold cp at h ⊢
 split at h
 ·simp at h
 ·rename_i h1
  simp only[Bool.not_eq_false] at h1
  rw[if_neg (by simp[h1])]
  split at h
  ·simp at h
  ·rename_i n hn
   obtain⟨o,h2,h3,h4,h5⟩:=oJ hn
   simp only[hn,h5] at h ⊢
   split at h<;>rename_i h6
   ·simp at h
   split at h<;>rename_i h7
   ·simp at h
   rw[if_neg h6,if_neg h7]
   have hm:=(jO.1 h1).2.1 o (List.mem_of_getElem? h2)
   simp only[not_or] at h6
   have hr:=zB (q:=q) hm ab ab
   have hl:dn o≤o.aq-o.done:=by unfold dn;split<;>simp only[bw,Bool.and_eq_true,decide_eq_true_eq] at hm<;>omega
   exact vc h1 h2 (sU hm ab ab) rfl
theorem FH{l:List Od}{a b:Bs}{q p:Int}(h:(cm l a b q p).2=0):bd (cm l a b q p).1=true:=by
 unfold cm at h ⊢
 split at h
 ·simp at h
 ·rename_i h1
  simp only[Bool.not_eq_false] at h1
  rw[if_neg (by simp[h1])]
  split at h
  ·simp at h
  ·rename_i n hn
   obtain⟨o,h2,h3,h4,h5⟩:=oJ hn
   simp only[hn,h5] at h ⊢
   split at h<;>rename_i h6
   ·simp at h
   split at h<;>rename_i h7
   ·simp at h
   split at h<;>rename_i h8
   ·simp at h
   rw[if_neg h6,if_neg h7,if_neg h8]
   have hm:=(jO.1 h1).2.1 o (List.mem_of_getElem? h2)
   have hd:0≤o.done∧o.done≤o.aq:=by simp only[bw,Bool.and_eq_true,decide_eq_true_eq] at hm;omega
   have hs:=vc (o':=⟨o.id,o.acc,o.sym,o.az,o.aq,o.aA,o.done,false⟩) h1 h2 (sU hm hd.1 hd.2) rfl
   refine uq hs (by simpa using h6) ?_ (by simpa using h8)
   have h9:(b7 l b).isNone=true:=by cases hp:b7 l b with|none=>rfl|some n=>simp[hp] at h7
   rw[oC] at h9
   have h10:(b7 (l.set n ⟨o.id,o.acc,o.sym,o.az,o.aq,o.aA,o.done,false⟩) b).isNone=true:=by
    rw[oC,mG (f:=fun o:Od=>o.id) (y:=⟨o.id,o.acc,o.sym,o.az,o.aq,o.aA,o.done,false⟩) h2 rfl];exact h9
   simpa using h10
end Go.Bk
namespace Go.Bk
theorem Pa{l:List Dn}{id:Bs}{n:Nat}(h:dI l id=some n):∃f,l[n]?=some f∧f.id=id∧l.getD n nc=f:=by
 unfold dI at h
 obtain⟨hn,h1,_⟩:=List.findIdx?_eq_some_iff_getElem.1 h
 have:=List.getElem?_eq_getElem hn
 exact⟨l[n],this,by simpa using h1,mH this⟩
theorem J4{b:Bk}{x:Ex}(h:(bQ b x).2≠0):(bQ b x).1=b∧1≤(bQ b x).2∧(bQ b x).2≤6:=by
 revert h
 unfold bQ
 cases dI b.al x.ref with
 |none=>intro _;simp
 |some n=>
  simp only
  repeat' split
  all_goals simp
theorem Xf{b:Bk}{x:Ex}(h:(dT b x).2≠0):(dT b x).1=b∧1≤(dT b x).2∧(dT b x).2≤6:=by
 unfold dT at h ⊢
 simp only at h ⊢
 repeat' split
 all_goals simp_all
theorem KO{b:Bk}{x:Ex}(h:(dZ b x).2≠0):(dZ b x).1=b∧1≤(dZ b x).2∧(dZ b x).2≤6:=by
 unfold dZ at h ⊢
 simp only at h ⊢
 repeat' split
 all_goals simp_all
theorem u3{b:Bk}{x:Ex}(h:(bU b x).2≠0):(bU b x).1=b∧1≤(bU b x).2∧(bU b x).2≤6:=by
 by_cases h0:x.time<b.clock
 ·unfold bU;rw[if_pos h0];simp
 ·by_cases h1:x.kind=1
  ·unfold bU at h ⊢;rw[if_neg h0,if_pos h1] at h ⊢
   simp only at h ⊢
   split at h<;>simp_all
  ·by_cases h7:x.kind=7∨x.kind=8
   ·have e:bU b x=bQ b x:=by unfold bU;rw[if_neg h0,if_neg h1,if_pos h7]
    rw[e] at h ⊢;exact J4 h
   ·unfold bU at h ⊢;rw[if_neg h0,if_neg h1,if_neg h7] at h ⊢
    simp only at h ⊢
    generalize findF b.ak (if x.kind=4 then x.ref else x.ord)=o at h ⊢
    split at h<;>rename_i g1
    ·rw[if_pos g1];simp
    ·rw[if_neg g1]
     split at h<;>rename_i g2
     ·rw[if_pos g2];simp
     ·rw[if_neg g2]
      split at h<;>rename_i g3
      ·rw[if_pos g3];exact Xf h
      ·rw[if_neg g3]
       split at h<;>rename_i g4
       ·rw[if_pos g4];exact KO h
       ·rw[if_neg g4]
        split at h<;>simp_all
inductive jR(b:Bk)(x:Ex):Bk→Prop
 |opens (hk:x.kind=1) (h:(cN b.ak (gh x)).2=0):jR b x { b with ak:=(cN b.ak (gh x)).1 }
 |vb (hk:x.kind=7) (n:Nat) (f:Dn) (hn:b.al[n]?=some f) (hid:f.id=x.ref) (hl:f.live=true) (ht:x.time-f.time≤10) (ho:f.ord=x.ord) (ha:f.acc=x.acc) (hs:f.sym=x.sym) (hb:f.az=x.az):jR b x { b with al:=b.al.set n { f with live:=false } }
 |vE (hk:x.kind=8) (n:Nat) (f:Dn) (hn:b.al[n]?=some f) (hid:f.id=x.ref) (hl:f.live=true) (ht:x.time-f.time≤10) (ho:f.ord=x.ord) (ha:f.acc=x.acc) (hs:f.sym=x.sym) (hb:f.az=x.az) (hq:x.aq≤f.aq) (hf:(findF b.ak f.ord).2=true) (hp:eD { (findF b.ak f.ord).1 with az:=f.az } x.aA=true):jR b x { b with al:=b.al.set n { f with aq:=x.aq,aA:=x.aA } }
 |al (hk:x.kind=2) (h:(cp b.ak x.ord x.aq x.aA).2=0) (hf:(findF b.ak x.ord).2=true) (ho:(findF b.ak x.ord).1.bq=true) (ha:(findF b.ak x.ord).1.acc=x.acc) (hs:(findF b.ak x.ord).1.sym=x.sym) (hb:(findF b.ak x.ord).1.az=x.az):jR b x { b with ak:=(cp b.ak x.ord x.aq x.aA).1,al:=b.al++[jj x] }
 |changes (hk:x.kind=4) (h:(cm b.ak x.ref x.ord x.aq x.aA).2=0) (hf:(findF b.ak x.ref).2=true) (ho:(findF b.ak x.ref).1.bq=true) (ha:(findF b.ak x.ref).1.acc=x.acc) (hs:(findF b.ak x.ref).1.sym=x.sym) (hb:(findF b.ak x.ref).1.az=x.az):jR b x { b with ak:=(cm b.ak x.ref x.ord x.aq x.aA).1 }
 |uS (hk:¬x.kind=1∧¬x.kind=2∧¬x.kind=4∧¬x.kind=7∧¬x.kind=8) (h:(dE b.ak x.ord).2=0) (hf:(findF b.ak x.ord).2=true) (ho:(findF b.ak x.ord).1.bq=true) (ha:(findF b.ak x.ord).1.acc=x.acc) (hs:(findF b.ak x.ord).1.sym=x.sym) (hb:(findF b.ak x.ord).1.az=x.az):jR b x { b with ak:=(dE b.ak x.ord).1 }
theorem ue{b:Bk}{x:Ex}(h:(bU b x).2=0):b.clock≤x.time∧jR b x (bU b x).1:=by
 by_cases h0:x.time<b.clock
 ·unfold bU at h;rw[if_pos h0] at h;simp at h
 refine⟨by omega,?_⟩
 by_cases h1:x.kind=1
 ·unfold bU at h ⊢;rw[if_neg h0,if_pos h1] at h ⊢
  simp only at h ⊢
  split at h<;>rename_i g
  ·rw[if_pos g];exact .opens h1 g
  ·simp at h
 by_cases h7:x.kind=7∨x.kind=8
 ·have e:bU b x=bQ b x:=by unfold bU;rw[if_neg h0,if_neg h1,if_pos h7]
  rw[e] at h ⊢
  unfold bQ at h ⊢
  cases hn:dI b.al x.ref with
  |none=>rw[hn] at h;simp at h
  |some n=>
   rw[hn] at h
   obtain⟨f,g1,g2,g3⟩:=Pa hn
   simp only[g3] at h ⊢
   split at h<;>rename_i k1
   ·simp at h
   split at h<;>rename_i k2
   ·simp at h
   simp only[not_or,Bool.not_eq_false,Int.not_lt,ne_eq,Decidable.not_not] at k1 k2
   split at h<;>rename_i k3
   ·rw[if_neg (by simp[k1]),if_neg (by simp[k2]),if_pos k3]
    exact .vb k3 n f g1 g2 k1.1 k1.2 k2.1 k2.2.1 k2.2.2.1 k2.2.2.2
   ·split at h<;>rename_i k4
    ·simp at h
    split at h<;>rename_i k5
    ·simp at h
    rw[if_neg (by simp[k1]),if_neg (by simp[k2]),if_neg k3,if_neg k4,if_neg k5]
    simp only[not_or,Bool.not_eq_false] at k5
    exact .vE ab n f g1 g2 k1.1 k1.2 k2.1 k2.2.1 k2.2.2.1 k2.2.2.2 ab k5.1 k5.2
 ·unfold bU at h ⊢;rw[if_neg h0,if_neg h1,if_neg h7] at h ⊢
  simp only at h ⊢
  generalize hid:(if x.kind=4 then x.ref else x.ord)=id at h ⊢
  split at h<;>rename_i g1
  ·simp at h
  split at h<;>rename_i g2
  ·simp at h
  rw[if_neg g1,if_neg g2]
  simp only[not_or,Bool.not_eq_false,ne_eq,Decidable.not_not] at g1 g2
  split at h<;>rename_i g3
  ·rw[if_pos g3]
   rw[if_neg ab] at hid
   subst hid
   unfold dT at h ⊢
   simp only at h ⊢
   split at h<;>rename_i g5
   ·rw[if_pos g5];exact .al g3 g5 g1.1 g1.2 g2.1 g2.2.1 g2.2.2
   ·(repeat' split at h)<;>simp at h
  ·rw[if_neg g3]
   split at h<;>rename_i g4
   ·rw[if_pos g4]
    rw[if_pos g4] at hid
    subst hid
    unfold dZ at h ⊢
    simp only at h ⊢
    split at h<;>rename_i g5
    ·rw[if_pos g5];exact .changes g4 g5 g1.1 g1.2 g2.1 g2.2.1 g2.2.2
    ·(repeat' split at h)<;>simp at h
   ·rw[if_neg g4]
    rw[if_neg g4] at hid
    subst hid
    split at h<;>rename_i g5
    ·rw[if_pos g5];exact .uS ⟨h1,g3,g4,fun e=>h7 (.inl e),fun e=>h7 (.inr e)⟩ g5 g1.1 g1.2 g2.1 g2.2.1 g2.2.2
    ·simp at h
end Go.Bk
namespace Go.Bk
theorem tP{b c:Bk}{f:Dn}(h:ct b f=true)(h1:b.clock≤c.clock)(h2:∀s∈b.ids,s∈c.ids):ct c f=true:=by
 simp only[ct,Bool.and_eq_true,decide_eq_true_eq] at h ⊢
 exact⟨⟨⟨⟨h.1.1.1.1,h.1.1.1.2⟩,h.1.1.2⟩,by omega⟩,h2 _ h.2⟩
theorem X3{b:Bk}{f g:Dn}(h:ct b f=true)(hid:g.id=f.id)(ht:g.time=f.time)(hq:bS g.aq=true)(hp:bS g.aA=true):ct b g=true:=by
 simp only[ct,Bool.and_eq_true,decide_eq_true_eq] at h ⊢
 rw[hid,ht]
 exact⟨⟨⟨⟨hq,hp⟩,h.1.1.2⟩,h.1.2⟩,h.2⟩
theorem Co{x:Ex}(h:du x=true):bS x.aq=true∧bS x.aA=true∧0≤x.time∧x.time≤4611686018427387904:=by
 simp only[du,mq,Bool.and_eq_true,decide_eq_true_eq] at h
 exact⟨h.1.1.2,h.1.2,h.2⟩
theorem fj{b:Bk}:aW b=true↔(bd b.ak=true∧b.al.length≤256∧b.ids.length≤256∧0≤b.clock∧b.clock≤4611686018427387904∧0≤b.bad∧b.bad≤6)∧b.ids.Nodup∧(∀f∈b.al,ct b f=true)∧(b.al.map (·.id)).Nodup:=by
 simp only[aW,fO,Bool.and_eq_true,decide_eq_true_eq,List.all_eq_true]
 constructor
 ·rintro⟨⟨⟨h1,h2⟩,h3⟩,h4⟩;exact⟨⟨h1.1.1.1.1.1.1,h1.1.1.1.1.1.2,h1.1.1.1.1.2,h1.1.1.1.2,h1.1.1.2,h1.1.2,h1.2⟩,h2,h3,h4⟩
 ·rintro⟨⟨a,b,c,d,e,f,g⟩,h2,h3,h4⟩;exact⟨⟨⟨⟨⟨⟨⟨⟨⟨a,b⟩,c⟩,d⟩,e⟩,f⟩,g⟩,h2⟩,h3⟩,h4⟩
theorem zA{α:Type}[DecidableEq α]:∀{l m:List α},l.Nodup→(∀x∈l,x∈m)→l.length≤m.length
 |[],m,_,_=>Nat.zero_le _
 |x::l,m,h,hs=>by
  rw[List.nodup_cons] at h
  have hx:=hs x (List.mem_cons_self ..)
  have ih:=zA (m:=m.erase x) h.2 fun y hy=>(List.mem_erase_of_ne (fun e=>h.1 (by rw[←e];exact hy))).2 (hs y (List.mem_cons_of_mem _ hy))
  rw[List.length_erase_of_mem hx] at ih
  have:=List.length_pos_of_mem hx
  simp only[List.length_cons];omega
theorem PC{l:List Dn}{ids:List Bs}(h:(l.map (·.id)).Nodup)(hs:∀f∈l,f.id∈ids):l.length≤ids.length:=by
 have:=zA (m:=ids) h fun a ha=>by
  obtain⟨f,hf,rfl⟩:=List.mem_map.1 ha
  exact hs f hf
 simpa using this
theorem Xd{b:Bk}{x:Ex}(h:aW b=true)(hx:du x=true):aW (bX b x).1=true:=by
 unfold bX
 split
 ·exact h
 rename_i h0
 split
 ·exact h
 rename_i h1
 simp only[not_or,Decidable.not_not,ne_eq] at h0
 have h1':x.id∉b.ids:=fun hm=>h1 (oh.2 hm)
 obtain⟨⟨a1,a2,a3,a4,a5,a6,a7⟩,h2,h3,h4⟩:=fj.1 h
 have hn:(b.ids++[x.id]).Nodup:=by
  rw[List.nodup_append]
  refine⟨h2,by simp,fun a ha c hc e=>?_⟩
  simp only[List.mem_singleton] at hc
  subst hc;subst e;exact h1' ha
 have hlen:(b.ids++[x.id]).length≤256:=by simp;omega
 have hsub:∀s∈b.ids,s∈b.ids++[x.id]:=fun s hs=>List.mem_append_left _ hs
 simp only
 split
 ·rename_i hw
  have⟨e1,e2,e3⟩:=u3 hw
  rw[e1]
  exact fj.2 ⟨⟨a1,a2,hlen,a4,a5,Int.le_trans ay e2,e3⟩,hn,fun f hf=>tP (h3 f hf) (Int.le_refl _) hsub,h4⟩
 ·rename_i hw
  simp only[Decidable.not_not,ne_eq] at hw
  have⟨hc,hd⟩:=ue hw
  have hx2:=Co hx
  have hc':b.clock≤x.time:=hc
  generalize (bU { b with ids:=b.ids++[x.id] } x).1=c at hd
  have old:∀f∈b.al,ct ⟨b.ak,b.al,b.ids++[x.id],x.time,b.bad⟩ f=true:=fun f hf=>tP (h3 f hf) hc' hsub
  have side:∀(os:List Od) (fs:List Dn),bd os=true→(∀f∈fs,ct ⟨b.ak,b.al,b.ids++[x.id],x.time,b.bad⟩ f=true)→(fs.map (·.id)).Nodup→aW ⟨os,fs,b.ids++[x.id],x.time,b.bad⟩=true:=by
   intro os fs g1 g2 g3
   have g4:fs.length≤(b.ids++[x.id]).length:=PC g3 fun f hf=>by
    have:=g2 f hf
    simp only[ct,Bool.and_eq_true,decide_eq_true_eq] at this
    exact this.2
   exact fj.2 ⟨⟨g1,Nat.le_trans g4 hlen,hlen,by show 0≤x.time;omega,hx2.2.2.2,a6,a7⟩,hn,g2,g3⟩
  cases hd with
  |opens hk h=>exact side _ _ (SX h) old h4
  |vb hk n f hn hid hl ht ho ha hs hb=>
   have hf:=old f (List.mem_of_getElem? hn)
   refine side _ _ a1 (fun g hg=>?_) (by rw[mG (f:=fun f:Dn=>f.id) hn];exact h4;rfl)
   rcases List.mem_or_eq_of_mem_set hg with hg|rfl
   ·exact old g hg
   ·simp only[ct,Bool.and_eq_true] at hf ⊢;exact hf
  |vE hk n f hn hid hl ht ho ha hs hb hq hf hp=>
   have hf:=old f (List.mem_of_getElem? hn)
   refine side _ _ a1 (fun g hg=>?_) (by rw[mG (f:=fun f:Dn=>f.id) hn];exact h4;rfl)
   rcases List.mem_or_eq_of_mem_set hg with hg|rfl
   ·exact old g hg
   ·exact X3 hf rfl rfl hx2.1 hx2.2.1
  |al hk h hf ho ha hs hb=>
   refine side _ _ (Pv h) (fun g hg=>?_) ?_
   ·rcases List.mem_append.1 hg with hg|hg
    ·exact old g hg
    ·rw[List.mem_singleton.1 hg]
     simp[ct,jj,hx2.1,hx2.2.1,hx2.2.2.1]
   ·rw[List.map_append,List.nodup_append]
    refine⟨h4,by simp,fun a ha c hc e=>?_⟩
    simp only[List.map_cons,List.map_nil,jj,List.mem_singleton] at hc
    subst hc;subst e
    obtain⟨f,hf,e⟩:=List.mem_map.1 ha
    have:=h3 f hf
    simp only[ct,Bool.and_eq_true,decide_eq_true_eq] at this
    exact h1' (e ▸ this.2)
  |changes hk h hf ho ha hs hb=>exact side _ _ (FH h) old h4
  |uS hk h hf ho ha hs hb=>exact side _ _ (X9 h) old h4
theorem vQ{b:Bk}{x:Ex}(h:aW b=true):aW (bj b x).1=true:=by
 unfold bj
 split
 ·rename_i hx;simp only[Bool.and_eq_true] at hx;exact Xd h hx.2
 ·exact h
end Go.Bk
namespace Go.Bk
theorem Mz{b c:Bk}{x:Ex}(h:jR b x c):c.ids=b.ids∧c.clock=b.clock∧c.bad=b.bad:=by cases h<;>exact⟨rfl,rfl,rfl⟩
theorem yF{b:Bk}{x:Ex}(hb:b.bad=0)(hl:b.ids.length<256)(hx:x.id∉b.ids):
 (∃e,bX b x=(⟨b.ak,b.al,b.ids++[x.id],b.clock,e⟩,3)∧1≤e∧e≤6)∨
 (∃c,bX b x=(⟨c.ak,c.al,b.ids++[x.id],x.time,0⟩,1)∧b.clock≤x.time∧jR ⟨b.ak,b.al,b.ids++[x.id],b.clock,b.bad⟩ x c):=by
 unfold bX
 rw[if_neg ab,if_neg (by rw[oh];exact hx)]
 simp only
 by_cases h:(bU ⟨b.ak,b.al,b.ids++[x.id],b.clock,b.bad⟩ x).2=0
 ·right
  have⟨h1,h2⟩:=ue h
  have⟨h3,h4,h5⟩:=Mz h2
  refine⟨_,?_,h1,h2⟩
  rw[if_neg (by simpa using h)]
  rw[h3,h5,hb]
 ·left
  have⟨h1,h2,h3⟩:=u3 h
  refine⟨_,?_,h2,h3⟩
  rw[if_pos h,h1]
end Go.Bk
namespace Go.Bk
theorem gV{α:Type}{p:α×Int}{l:α}{k:Int}(h:p.2=k)(hk:p.2≠0→p.1=l)(h0:k≠0):p=(l,k):=by
 have:=hk (by rw[h];exact h0)
 cases p;simp_all
theorem qt{l:List Od}{o:Od}(h:(cN l o).2≠0):(cN l o).1=l:=by
 revert h;unfold cN;repeat' split
 all_goals simp
theorem nK{l:List Od}{id:Bs}{q p:Int}(h:(cp l id q p).2≠0):(cp l id q p).1=l:=by
 revert h;unfold cp;repeat' split
 all_goals(try simp)
 all_goals(repeat' split)
 all_goals simp
theorem qg{l:List Od}{a b:Bs}{q p:Int}(h:(cm l a b q p).2≠0):(cm l a b q p).1=l:=by
 revert h;unfold cm;repeat' split
 all_goals(try simp)
 all_goals(repeat' split)
 all_goals simp
theorem lW{l:List Od}{id:Bs}(h:¬bW l id<0):∃n o,bW l id=(n:Nat)∧b7 l id=some n∧l[n]?=some o∧n<l.length:=by
 rcases jl l id with⟨e,_⟩|⟨n,o,e,e2,e3⟩
 ·omega
 ·exact⟨n,o,e,e2,e3,bM e3⟩
theorem l4{l:List Od}{id:Bs}{n:Nat}{o:Od}(h:b7 l id=some n)(h2:l[n]?=some o):cP l id=if o.bq then some n else none:=by
 unfold cP;rw[h];simp only[jq h2]
theorem rN{l:List Od}{id:Bs}(h:bW l id<0):cP l id=none:=by
 rcases jl l id with⟨_,e⟩|⟨n,o,e,_,_⟩
 ·unfold cP;rw[e]
 ·omega
end Go.Bk
namespace Go.Bk
end Go.Bk
namespace Go.Bk
theorem vu{b:Bk}{x:Ex}(hr:aW b=true)(h:(bj b x).2=1):du x=true∧b.bad=0∧x.id∉b.ids∧
 ∃c,bj b x=(⟨c.ak,c.al,b.ids++[x.id],x.time,0⟩,1)∧b.clock≤x.time∧jR ⟨b.ak,b.al,b.ids++[x.id],b.clock,b.bad⟩ x c:=by
 cases hx:du x with
 |false=>unfold bj at h;rw[hx] at h;simp at h
 |true=>
  have e:bj b x=bX b x:=by unfold bj;simp[hr,hx]
  rw[e] at h ⊢
  by_cases h1:b.bad≠0∨256≤b.ids.length
  ·unfold bX at h;rw[if_pos h1] at h;simp at h
  ·simp only[not_or,ne_eq,Decidable.not_not] at h1
   by_cases hm:x.id∈b.ids
   ·unfold bX at h;rw[if_neg ab,if_pos (oh.2 hm)] at h;simp at h
   ·rcases yF h1.1 ab hm with⟨e',h4,_⟩|⟨c,h4,h5,h6⟩
    ·rw[h4] at h;simp at h
    ·exact⟨rfl,h1.1,hm,c,h4,h5,h6⟩
theorem xT{l:List Bs}{i:Nat}{x:Bs}(h:l[i]?=some x):eR l x=i↔x∉l.take i:=by
 rw[uQ,uF h aD]
 constructor
 ·intro h1 h2;simpa using h1 x h2
 ·intro h1 y hy;simp;rintro rfl;exact h1 hy
theorem yg{l:List Dn}{i:Nat}{f:Dn}(h:l[i]?=some f):fD l f.id=i↔f.id∉(l.take i).map (·.id):=by
 rw[CR,uF h aD]
 constructor
 ·intro h1 h2
  obtain⟨g,hg,e⟩:=List.mem_map.1 h2
  have:=h1 g hg
  simp[e] at this
 ·intro h1 y hy;simp;intro e;exact h1 (List.mem_map.2 ⟨y,hy,e⟩)
theorem xJ{α:Type}{l:List α}{x:α}(h:l.Nodup)(hx:x∉l):(l++[x]).Nodup:=by
 rw[List.nodup_append]
 exact⟨h,by simp,fun a ha b hb=>by rw[List.mem_singleton.1 hb];rintro rfl;exact hx ha⟩
theorem Ml{l:List Bs}{i:Nat}{x:Bs}(h:l[i]?=some x)(hn:(l.take i).Nodup)(hi:eR l x=i):(l.take (i+1)).Nodup:=by
 rw[cF h];exact xJ hn ((xT h).1 hi)
theorem PN{l:List Bs}{i:Nat}{x:Bs}(h:l[i]?=some x)(hi:¬eR l x=i):¬l.Nodup:=by
 intro hn
 rw[xT h,Classical.not_not] at hi
 obtain⟨hl,e⟩:=List.getElem?_eq_some_iff.1 h
 rw[←List.take_append_drop i l,List.nodup_append] at hn
 refine hn.2.2 x hi x ?_ rfl
 rw[drop_cons h];simp
theorem Hf{l:List Dn}{i:Nat}{f:Dn}(h:l[i]?=some f)(hn:((l.take i).map (·.id)).Nodup)(hi:fD l f.id=i):((l.take (i+1)).map (·.id)).Nodup:=by
 rw[cF h,List.map_append];exact xJ hn ((yg h).1 hi)
theorem UD{l:List Dn}{i:Nat}{f:Dn}(h:l[i]?=some f)(hi:¬fD l f.id=i):¬(l.map (·.id)).Nodup:=by
 intro hn
 rw[yg h,Classical.not_not] at hi
 rw[←List.take_append_drop i l,List.map_append,List.nodup_append] at hn
 refine hn.2.2 _ hi _ ?_ rfl
 rw[drop_cons h];simp
theorem Bf{l:List Bs}{x:Bs}:eR l x<0↔x∉l:=by
 rw[uQ,Fw]
 constructor
 ·intro h hx;simpa using h x hx
 ·intro h y hy;simp;rintro rfl;exact h hy
theorem JN{b:Bk}(h:fO b=false):aW b=false:=by simp[aW,h]
theorem GI{b:Bk}(h:¬b.ids.Nodup):aW b=false:=by simp[aW,h]
theorem pd{b:Bk}{i:Nat}{f:Dn}(hb:b.al[i]?=some f)(h:ct b f=false):aW b=false:=by
 have:b.al.all (ct b)=false:=by
  rw[List.all_eq_false];exact⟨f,List.mem_of_getElem? hb,by simp[h]⟩
 unfold aW;rw[this];simp
theorem Ww{b:Bk}(h:¬(b.al.map (·.id)).Nodup):aW b=false:=by simp[aW,h]
theorem TH{b:Bk}(h1:fO b=true)(h2:b.ids.Nodup)(h3:b.al.all (ct b)=true)(h4:(b.al.map (·.id)).Nodup):aW b=true:=by
 unfold aW;rw[h1,h3];simp[h2,h4]
theorem Fj(b:Bk)(x:Ex)(c:Int):bQ { b with clock:=c } x=({ (bQ b x).1 with clock:=c },(bQ b x).2):=by
 unfold bQ
 dsimp only
 split
 ·rfl
 ·repeat' split
  all_goals rfl
def kY(e:Int):Int:=if e=1 then 4 else if e=9 then 5 else 2
def dG(b:Bk)(x:Ex):Bk×Int:=
 if x.time<b.clock then(b,1)
 else if x.kind=1 then(if(cN b.ak (gh x)).2=0 then(⟨(cN b.ak (gh x)).1,b.al,b.ids,x.time,b.bad⟩,0) else(⟨b.ak,b.al,b.ids,x.time,b.bad⟩,2))
 else if 6<x.kind then bQ ⟨b.ak,b.al,b.ids,x.time,b.bad⟩ x
 else match cP b.ak (if x.kind=4 then x.ref else x.ord) with
 |none=>(⟨b.ak,b.al,b.ids,x.time,b.bad⟩,2)
 |some n=>
  if(b.ak.getD n eW).acc≠x.acc∨(b.ak.getD n eW).sym≠x.sym∨(b.ak.getD n eW).az≠x.az then(⟨b.ak,b.al,b.ids,x.time,b.bad⟩,3)
  else if x.kind=2 then(if(cp b.ak x.ord x.aq x.aA).2=0 then(⟨(cp b.ak x.ord x.aq x.aA).1,b.al++[jj x],b.ids,x.time,b.bad⟩,0) else(⟨b.ak,b.al++[jj x],b.ids,x.time,b.bad⟩,kY (cp b.ak x.ord x.aq x.aA).2))
  else if x.kind=4 then(if(cm b.ak x.ref x.ord x.aq x.aA).2=0 then(⟨(cm b.ak x.ref x.ord x.aq x.aA).1,b.al,b.ids,x.time,b.bad⟩,0) else(⟨b.ak,b.al,b.ids,x.time,b.bad⟩,kY (cm b.ak x.ref x.ord x.aq x.aA).2))
  else(if(dE b.ak x.ord).2=0 then(⟨(dE b.ak x.ord).1,b.al,b.ids,x.time,b.bad⟩,0) else(⟨b.ak,b.al,b.ids,x.time,b.bad⟩,kY (dE b.ak x.ord).2))
theorem Cd{l:List Od}{id:Bs}(h:bd l=true):((findF l id).2=false∨(findF l id).1.bq=false)↔cP l id=none:=by
 unfold findF cP
 rw[if_pos h]
 cases b7 l id with
 |none=>simp
 |some n=>simp only[];cases (l.getD n eW).bq<;>simp
theorem R4{l:List Od}{id:Bs}{n:Nat}(h:bd l=true)(h2:cP l id=some n):(findF l id).1=l.getD n eW:=by
 unfold cP at h2
 unfold findF
 rw[if_pos h]
 cases hp:b7 l id with
 |none=>rw[hp] at h2;simp at h2
 |some k=>
  rw[hp] at h2;simp only[] at h2
  split at h2
  ·simp only[Option.some.injEq] at h2;subst h2;rfl
  ·simp at h2
theorem M6{l:List Od}{a b:Bs}{q p:Int}:(cm l a b q p).2≠9:=by
 unfold cm
 repeat' split
 all_goals simp
 all_goals(repeat' split)
 all_goals simp
theorem xp{b:Bk}{x:Ex}(hr:bd b.ak=true)(hk:1≤x.kind∧x.kind≤8):(dG b x).2=(bU b x).2∧((bU b x).2=0→(dG b x).1={ (bU b x).1 with clock:=x.time }):=by
 unfold dG bU
 by_cases h1:x.time<b.clock
 ·rw[if_pos h1,if_pos h1];exact⟨rfl,fun h=>absurd h aD⟩
 rw[if_neg h1,if_neg h1]
 by_cases h2:x.kind=1
 ·rw[if_pos h2,if_pos h2]
  simp only[]
  split
  ·exact⟨rfl,fun _=>rfl⟩
  ·exact⟨rfl,fun h=>absurd h aD⟩
 rw[if_neg h2,if_neg h2]
 by_cases h3:6<x.kind
 ·rw[if_pos h3,if_pos (show x.kind=7∨x.kind=8 by omega)]
  rw[show(⟨b.ak,b.al,b.ids,x.time,b.bad⟩:Bk)={ b with clock:=x.time } from rfl,Fj];exact⟨rfl,fun _=>rfl⟩
 rw[if_neg h3,if_neg (show ¬(x.kind=7∨x.kind=8) by omega)]
 simp only[]
 cases ho:cP b.ak (if x.kind=4 then x.ref else x.ord) with
 |none=>
  rw[if_pos ((Cd hr).2 ho)];exact⟨rfl,fun h=>absurd h aD⟩
 |some n=>
  have hfo:¬((findF b.ak (if x.kind=4 then x.ref else x.ord)).2=false∨(findF b.ak (if x.kind=4 then x.ref else x.ord)).1.bq=false):=fun h=>by rw[(Cd hr).1 h] at ho;simp at ho
  simp only[]
  rw[if_neg hfo,R4 hr ho]
  by_cases h4:(b.ak.getD n eW).acc≠x.acc∨(b.ak.getD n eW).sym≠x.sym∨(b.ak.getD n eW).az≠x.az
  ·rw[if_pos h4,if_pos h4];exact⟨rfl,fun h=>absurd h aD⟩
  rw[if_neg h4,if_neg h4]
  by_cases h5:x.kind=2
  ·rw[if_pos h5,if_pos h5]
   unfold dT
   simp only[]
   split
   ·exact⟨rfl,fun _=>rfl⟩
   ·unfold kY
    split
    ·exact⟨rfl,fun h=>absurd h aD⟩
    ·split
     ·exact⟨rfl,fun h=>absurd h aD⟩
     ·exact⟨rfl,fun h=>absurd h aD⟩
  rw[if_neg h5,if_neg h5]
  by_cases h6:x.kind=4
  ·rw[if_pos h6,if_pos h6]
   unfold dZ
   simp only[]
   split
   ·exact⟨rfl,fun _=>rfl⟩
   ·unfold kY
    split
    ·exact⟨rfl,fun h=>absurd h aD⟩
    ·rw[if_neg M6];exact⟨rfl,fun h=>absurd h aD⟩
  rw[if_neg h6,if_neg h6]
  rw[if_neg h6] at ho
  have hc:(dE b.ak x.ord).2=0:=by unfold dE;simp[hr,ho]
  rw[if_pos hc,if_pos hc];exact⟨rfl,fun _=>rfl⟩
theorem DU{x:Ex}(h:du x=true):1≤x.kind∧x.kind≤8:=by
 apply Classical.byContradiction
 intro hn
 unfold du at h
 rw[if_neg ab,if_neg ab] at h
 simp at h
theorem tB{l:List Bs}{id:Bs}:lI l id=decide (0≤eR l id):=rfl
theorem wD{b:Bk}{x:Ex}(h:b.bad≠0∨256≤b.ids.length):bX b x=(b,4):=by unfold bX;rw[if_pos h]
theorem SY{b:Bk}{x:Ex}(h:¬(b.bad≠0∨256≤b.ids.length))(h2:0≤eR b.ids x.id):bX b x=(b,2):=by unfold bX;rw[if_neg h,tB,if_pos (by simpa using h2)]
theorem EU{b:Bk}{x:Ex}(hr:bd b.ak=true)(hk:1≤x.kind∧x.kind≤8)(h:¬(b.bad≠0∨256≤b.ids.length))(h2:¬0≤eR b.ids x.id)(h3:¬(dG ⟨b.ak,b.al,b.ids++[x.id],b.clock,b.bad⟩ x).2=0):
 bX b x=(⟨b.ak,b.al,b.ids++[x.id],b.clock,(dG ⟨b.ak,b.al,b.ids++[x.id],b.clock,b.bad⟩ x).2⟩,3):=by
 have hs:=xp (b:=⟨b.ak,b.al,b.ids++[x.id],b.clock,b.bad⟩) (x:=x) hr hk
 rw[hs.1] at h3 ⊢
 have hw:=u3 (b:=⟨b.ak,b.al,b.ids++[x.id],b.clock,b.bad⟩) (x:=x) h3
 unfold bX;rw[if_neg h,tB,if_neg (by simpa using h2)]
 simp only[]
 rw[if_pos h3,hw.1]
theorem IT{b:Bk}{x:Ex}(hr:bd b.ak=true)(hk:1≤x.kind∧x.kind≤8)(h:¬(b.bad≠0∨256≤b.ids.length))(h2:¬0≤eR b.ids x.id)(h3:(dG ⟨b.ak,b.al,b.ids++[x.id],b.clock,b.bad⟩ x).2=0):
 bX b x=((dG ⟨b.ak,b.al,b.ids++[x.id],b.clock,b.bad⟩ x).1,1):=by
 have hs:=xp (b:=⟨b.ak,b.al,b.ids++[x.id],b.clock,b.bad⟩) (x:=x) hr hk
 rw[hs.1] at h3
 rw[hs.2 h3]
 unfold bX;rw[if_neg h,tB,if_neg (by simpa using h2)]
 simp only[]
 rw[if_neg (by simpa using h3)]
end Go.Bk
namespace Go.Bk
theorem Iw{l:List Dn}{id:Bs}(h:¬fD l id<0):∃n f,fD l id=(n:Nat)∧dI l id=some n∧l[n]?=some f∧n<l.length:=by
 rcases tL l id with⟨e,_⟩|⟨n,o,e,e2,e3⟩
 ·omega
 ·exact⟨n,o,e,e2,e3,bM e3⟩
theorem RZ{l:List Dn}{id:Bs}(h:fD l id<0):dI l id=none:=by
 rcases tL l id with⟨_,e⟩|⟨n,o,e,_,_⟩
 ·exact e
 ·omega
theorem KS{b:Bk}{x:Ex}(h:fD b.al x.ref<0):bQ b x=(b,6):=by unfold bQ;rw[RZ h]
section
variable{b:Bk}{x:Ex}{n:Nat}{f:Dn}
theorem nf(h:dI b.al x.ref=some n)(h2:b.al[n]?=some f):bQ b x =
 if f.live=false∨10<x.time-f.time then(b,6)
 else if f.ord≠x.ord∨f.acc≠x.acc∨f.sym≠x.sym∨f.az≠x.az then(b,3)
 else if x.kind=7 then(⟨b.ak,b.al.set n ⟨f.id,f.ord,f.acc,f.sym,f.az,f.aq,f.aA,f.time,false⟩,b.ids,b.clock,b.bad⟩,0)
 else if f.aq<x.aq then(b,4)
 else if(findF b.ak f.ord).2=false∨eD { (findF b.ak f.ord).1 with az:=f.az } x.aA=false then(b,5)
 else(⟨b.ak,b.al.set n ⟨f.id,f.ord,f.acc,f.sym,f.az,x.aq,x.aA,f.time,f.live⟩,b.ids,b.clock,b.bad⟩,0):=by
 unfold bQ;rw[h];simp only[mH h2]
variable(h:dI b.al x.ref=some n)(h2:b.al[n]?=some f)
include h h2
theorem wG(h3:f.live=false∨10<x.time-f.time):bQ b x=(b,6):=by rw[nf h h2,if_pos h3]
theorem LA(h3:¬(f.live=false∨10<x.time-f.time))(h4:f.ord≠x.ord∨f.acc≠x.acc∨f.sym≠x.sym∨f.az≠x.az):bQ b x=(b,3):=by rw[nf h h2,if_neg h3,if_pos h4]
theorem MY(h3:¬(f.live=false∨10<x.time-f.time))(h4:¬(f.ord≠x.ord∨f.acc≠x.acc∨f.sym≠x.sym∨f.az≠x.az))(h5:x.kind=7):bQ b x=(⟨b.ak,b.al.set n ⟨f.id,f.ord,f.acc,f.sym,f.az,f.aq,f.aA,f.time,false⟩,b.ids,b.clock,b.bad⟩,0):=by rw[nf h h2,if_neg h3,if_neg h4,if_pos h5]
theorem Tf(h3:¬(f.live=false∨10<x.time-f.time))(h4:¬(f.ord≠x.ord∨f.acc≠x.acc∨f.sym≠x.sym∨f.az≠x.az))(h5:¬x.kind=7)(h6:f.aq<x.aq):bQ b x=(b,4):=by rw[nf h h2,if_neg h3,if_neg h4,if_neg h5,if_pos h6]
theorem SF(hr:bd b.ak=true)(h3:¬(f.live=false∨10<x.time-f.time))(h4:¬(f.ord≠x.ord∨f.acc≠x.acc∨f.sym≠x.sym∨f.az≠x.az))(h5:¬x.kind=7)(h6:¬f.aq<x.aq)(h7:bW b.ak f.ord<0):bQ b x=(b,5):=by
 rw[nf h h2,if_neg h3,if_neg h4,if_neg h5,if_neg h6,if_pos (.inl (by rw[xW hr h7]))]
theorem xk{m:Nat}{o:Od}(hr:bd b.ak=true)(h3:¬(f.live=false∨10<x.time-f.time))(h4:¬(f.ord≠x.ord∨f.acc≠x.acc∨f.sym≠x.sym∨f.az≠x.az))(h5:¬x.kind=7)(h6:¬f.aq<x.aq)(h7:bW b.ak f.ord=m)(h8:b.ak[m]?=some o)
 (h9:f.az=true∧o.aA<x.aA∨f.az=false∧x.aA<o.aA):bQ b x=(b,5):=by
 rw[nf h h2,if_neg h3,if_neg h4,if_neg h5,if_neg h6,if_pos (.inr (by
  rw[uO hr h7 h8];rcases h9 with⟨e,h9⟩|⟨e,h9⟩<;>simp[eD,e]<;>omega))]
theorem xA{m:Nat}{o:Od}(hr:bd b.ak=true)(hs:bS x.aA=true)(h3:¬(f.live=false∨10<x.time-f.time))(h4:¬(f.ord≠x.ord∨f.acc≠x.acc∨f.sym≠x.sym∨f.az≠x.az))(h5:¬x.kind=7)(h6:¬f.aq<x.aq)(h7:bW b.ak f.ord=m)(h8:b.ak[m]?=some o)
 (h9:f.az=true∧¬o.aA<x.aA∨f.az=false∧¬x.aA<o.aA):bQ b x=(⟨b.ak,b.al.set n ⟨f.id,f.ord,f.acc,f.sym,f.az,x.aq,x.aA,f.time,f.live⟩,b.ids,b.clock,b.bad⟩,0):=by
 rw[nf h h2,if_neg h3,if_neg h4,if_neg h5,if_neg h6,if_neg (by
  rw[uO hr h7 h8];rcases h9 with⟨e,h9⟩|⟨e,h9⟩<;>simp[eD,e,hs]<;>omega)]
end
section
variable{b:Bk}{x:Ex}
theorem Yz(h:x.time<b.clock):dG b x=(b,1):=by unfold dG;rw[if_pos h]
variable(h:¬x.time<b.clock)
include h
theorem EZ(h1:x.kind=1)(h2:(cN b.ak (gh x)).2=0):dG b x=(⟨(cN b.ak (gh x)).1,b.al,b.ids,x.time,b.bad⟩,0):=by unfold dG;rw[if_neg h,if_pos h1,if_pos h2]
theorem HW(h1:x.kind=1)(h2:¬(cN b.ak (gh x)).2=0):dG b x=(⟨b.ak,b.al,b.ids,x.time,b.bad⟩,2):=by unfold dG;rw[if_neg h,if_pos h1,if_neg h2]
variable(h1:¬x.kind=1)
include h1
theorem Uu(h2:6<x.kind):dG b x=bQ ⟨b.ak,b.al,b.ids,x.time,b.bad⟩ x:=by unfold dG;rw[if_neg h,if_neg h1,if_pos h2]
variable(h2:¬6<x.kind){id:Bs}(hid:(if x.kind=4 then x.ref else x.ord)=id)
include h2 hid
theorem sy(h3:cP b.ak id=none):dG b x=(⟨b.ak,b.al,b.ids,x.time,b.bad⟩,2):=by unfold dG;rw[if_neg h,if_neg h1,if_neg h2,hid,h3]
variable{n:Nat}{o:Od}(h3:cP b.ak id=some n)(h4:b.ak[n]?=some o)
include h3 h4
theorem yZ(h5:o.acc≠x.acc∨o.sym≠x.sym∨o.az≠x.az):dG b x=(⟨b.ak,b.al,b.ids,x.time,b.bad⟩,3):=by unfold dG;rw[if_neg h,if_neg h1,if_neg h2,hid,h3];simp only[jq h4];rw[if_pos h5]
variable(h5:¬(o.acc≠x.acc∨o.sym≠x.sym∨o.az≠x.az))
include h5
theorem H7(h6:x.kind=2)(h7:(cp b.ak x.ord x.aq x.aA).2=0):dG b x=(⟨(cp b.ak x.ord x.aq x.aA).1,b.al++[jj x],b.ids,x.time,b.bad⟩,0):=by
 unfold dG;rw[if_neg h,if_neg h1,if_neg h2,hid,h3];simp only[jq h4];rw[if_neg h5,if_pos h6,if_pos h7]
theorem Yh(h6:x.kind=2)(h7:¬(cp b.ak x.ord x.aq x.aA).2=0):dG b x=(⟨b.ak,b.al++[jj x],b.ids,x.time,b.bad⟩,kY (cp b.ak x.ord x.aq x.aA).2):=by
 unfold dG;rw[if_neg h,if_neg h1,if_neg h2,hid,h3];simp only[jq h4];rw[if_neg h5,if_pos h6,if_neg h7]
theorem DS(h6:x.kind=4)(h7:(cm b.ak x.ref x.ord x.aq x.aA).2=0):dG b x=(⟨(cm b.ak x.ref x.ord x.aq x.aA).1,b.al,b.ids,x.time,b.bad⟩,0):=by
 unfold dG;rw[if_neg h,if_neg h1,if_neg h2,hid,h3];simp only[jq h4];rw[if_neg h5,if_neg (show ¬x.kind=2 by omega),if_pos h6,if_pos h7]
theorem GJ(h6:x.kind=4)(h7:¬(cm b.ak x.ref x.ord x.aq x.aA).2=0):dG b x=(⟨b.ak,b.al,b.ids,x.time,b.bad⟩,kY (cm b.ak x.ref x.ord x.aq x.aA).2):=by
 unfold dG;rw[if_neg h,if_neg h1,if_neg h2,hid,h3];simp only[jq h4];rw[if_neg h5,if_neg (show ¬x.kind=2 by omega),if_pos h6,if_neg h7]
theorem Rp(hr:bd b.ak=true)(h6:¬x.kind=2)(h7:¬x.kind=4):dG b x=(⟨b.ak.set n ⟨o.id,o.acc,o.sym,o.az,o.aq,o.aA,o.done,false⟩,b.al,b.ids,x.time,b.bad⟩,0):=by
 rw[if_neg h7] at hid
 subst hid
 unfold dG;rw[if_neg h,if_neg h1,if_neg h2,if_neg h7,h3];simp only[jq h4];rw[if_neg h5,if_neg h6,if_neg h7,zc hr h3 h4,if_pos rfl]
end
theorem wW{b:Bk}{x:Ex}(h:aW b=false∨du x=false):bj b x=(b,0):=by
 unfold bj;rcases h with h|h<;>simp[h]
theorem pP{b:Bk}{x:Ex}(h1:aW b=true)(h2:du x=true):bj b x=bX b x:=by unfold bj;simp[h1,h2]
end Go.Bk
namespace Go.Bk
open Go Go.Abs
abbrev Ws:=Int×Int
def et(a b:Ws):Ws:=(IntKind.i64.wrap (a.1+b.1),IntKind.i64.wrap (a.2+b.2))
def dz(az:Bool)(q:Int):Ws:=if az then(q,0) else(0,q)
def cL(b:Bk)(f:Dn):Bool:=if f.time<0∨4611686018427387904<f.time then false else decide (10<IntKind.i64.wrap (b.clock-f.time))
def fv(fin:Bool)(acc sym:Bs)(f:Dn):Ws:=if f.live=true∧f.acc=acc∧f.sym=sym then(if f.az then(f.aq,if fin then -f.aq else 0) else(if fin then -f.aq else 0,f.aq)) else(0,0)
def fK(acc sym:Bs)(o:Od):Ws:=if o.acc=acc∧o.sym=sym then dz o.az (dn o) else(0,0)
def jx(acc sym:Bs)(o:Od):Ws:=if o.acc=acc∧o.sym=sym then dz o.az (o.aq-o.done) else(0,0)
def dg:List Ws→Ws
 |[]=>(0,0)
 |x::l=>(x.1+(dg l).1,x.2+(dg l).2)
theorem rA(l m:List Ws):dg (l++m)=((dg l).1+(dg m).1,(dg l).2+(dg m).2):=by
 induction l with
 |nil=>simp[dg]
 |cons x l ih=>simp only[List.cons_append,dg,ih];exact Prod.ext (by simp only[];omega) (by simp only[];omega)
def ja(b:Bk)(acc sym:Bs)(l:List Dn):List Ws:=l.map fun f=>fv (cL b f) acc sym f
def mT(b:Bk)(acc sym:Bs):Ws:=((dg (ja b acc sym b.al)).1+(dg (b.ak.map (fK acc sym))).1,(dg (ja b acc sym b.al)).2+(dg (b.ak.map (fK acc sym))).2)
def fS(b:Bk)(acc sym:Bs):Ws:=if aW b then mT b acc sym else(0,0)
def kV(l:List Od)(acc sym:Bs):Ws:=if bd l then dg (l.map (jx acc sym)) else(0,0)
def dj(w:Ws)(n:Int):Prop:=-n≤w.1∧w.1≤n∧-n≤w.2∧w.2≤n
theorem vr{l:List Ws}{c:Int}(hc:0≤c)(h:∀w∈l,dj w c):dj (dg l) (l.length*c):=by
 induction l with
 |nil=>simp[dg,dj]
 |cons x l ih=>
  have h1:=h x aD
  have h2:=ih fun w hw=>h w (by simp[hw])
  simp only[dj,dg,List.length_cons] at *
  rw[show(((l.length+1:Nat):Int))*c=l.length*c+c by rw[Int.natCast_add,Int.add_mul];simp]
  omega
theorem p5{b:Bool}{q c:Int}(h:0≤q)(h2:q≤c):dj (dz b q) c:=by
 unfold dz dj;cases b<;>simp<;>omega
theorem YB{fin:Bool}{acc sym:Bs}{f:Dn}(h:0≤f.aq)(h2:f.aq≤1099511627776):dj (fv fin acc sym f) 1099511627776:=by
 unfold fv dj
 split
 ·cases f.az<;>cases fin<;>simp<;>omega
 ·simp
theorem nO(o:Od):0≤dn o∧dn o≤1099511627776:=by
 unfold dn
 split
 ·rename_i h
  simp only[bw,bS,Bool.and_eq_true,decide_eq_true_eq] at h;omega
 ·omega
theorem Yf{acc sym:Bs}{o:Od}:dj (fK acc sym o) 1099511627776:=by
 unfold fK
 split
 ·exact p5 (nO o).1 (nO o).2
 ·simp[dj]
theorem oD{a b:Ws}{n m:Int}(h1:dj a n)(h2:dj b m)(h:n+m≤9000000000000000000):et a b=(a.1+b.1,a.2+b.2):=by
 simp only[dj] at h1 h2
 unfold et
 rw[av ab ab,av ab ab]
section
variable{b:Bk}{acc sym:Bs}{i:Nat}{f:Dn}{w:Ws}
def ea(b:Bk)(acc sym:Bs)(i:Nat):Ws:=dg (ja b acc sym (b.al.take i))
def ej(b:Bk)(acc sym:Bs)(i:Nat):Ws:=((ea b acc sym b.al.length).1+(dg ((b.ak.take i).map (fK acc sym))).1,(ea b acc sym b.al.length).2+(dg ((b.ak.take i).map (fK acc sym))).2)
theorem ll(hr:aW b=true):∀f∈b.al,0≤f.aq∧f.aq≤1099511627776∧0≤f.time∧f.time≤b.clock:=by
 intro f hf
 have h:=(fj.1 hr).2.2.1 f hf
 simp only[ct,bS,Bool.and_eq_true,decide_eq_true_eq] at h
 omega
theorem sd(hr:aW b=true):dj (ea b acc sym i) (256*1099511627776):=by
 have h1:∀x∈ja b acc sym (b.al.take i),dj x 1099511627776:=by
  intro x hx
  obtain⟨f,hf,rfl⟩:=List.mem_map.1 hx
  have:=ll hr f (List.mem_of_mem_take hf)
  exact YB this.1 this.2.1
 have h2:=vr ab h1
 have h3:(ja b acc sym (b.al.take i)).length≤256:=by
  have:=(fj.1 hr).1.2.1
  simp only[ja,List.length_map,List.length_take];omega
 simp only[dj,ea] at *
 omega
theorem rQ(hb:b.al[i]?=some f):ea b acc sym (i+1)=((ea b acc sym i).1+(fv (cL b f) acc sym f).1,(ea b acc sym i).2+(fv (cL b f) acc sym f).2):=by
 unfold ea ja
 rw[cF hb,List.map_append,rA]
 simp[dg]
theorem D4(hb:b.al[i]?=some f)(hw:w=ea b acc sym i)(h:¬(f.live=true∧f.acc=acc∧f.sym=sym)):w=ea b acc sym (i+1):=by
 rw[rQ hb,hw];unfold fv;rw[if_neg h];simp
theorem Kl(hr:aW b=true)(hb:b.al[i]?=some f)(hw:w=ea b acc sym i)(h:f.live=true∧f.acc=acc∧f.sym=sym)(hf:cL b f=false):et w (dz f.az f.aq)=ea b acc sym (i+1):=by
 have ha:=ll hr f (List.mem_of_getElem? hb)
 rw[rQ hb,hw,oD (sd hr) (p5 ha.1 ha.2.1) ab];unfold fv dz;rw[if_pos h,hf];cases f.az<;>simp
theorem WO(hr:aW b=true)(hb:b.al[i]?=some f)(hw:w=ea b acc sym i)(h:f.live=true∧f.acc=acc∧f.sym=sym)(hf:cL b f=true):et (et w (dz f.az f.aq)) (dz (!f.az) (IntKind.i64.wrap (0-f.aq)))=ea b acc sym (i+1):=by
 have ha:=ll hr f (List.mem_of_getElem? hb)
 have h1:=sd (acc:=acc) (sym:=sym) (i:=i) hr
 have h2:dj (dz f.az f.aq) 1099511627776:=p5 ha.1 ha.2.1
 have hn:IntKind.i64.wrap (0-f.aq)= -f.aq:=by rw[av ab ab];omega
 have h3:dj (dz (!f.az) (-f.aq)) 1099511627776:=by unfold dz dj;cases f.az<;>simp<;>omega
 rw[rQ hb,hw,oD h1 h2 ab,hn,oD (n:=257*1099511627776) (by simp only[dj] at *;omega) h3 ab]
 unfold fv dz;rw[if_pos h,hf];cases f.az<;>simp
theorem tD(hr:aW b=true):dj (ej b acc sym i) (320*1099511627776):=by
 have h1:=sd (acc:=acc) (sym:=sym) (i:=b.al.length) hr
 have h2:dj (dg ((b.ak.take i).map (fK acc sym))) (((b.ak.take i).map (fK acc sym)).length*1099511627776):=vr ab (fun x hx=>by
  obtain⟨o,_,rfl⟩:=List.mem_map.1 hx;exact Yf)
 have h3:((b.ak.take i).map (fK acc sym)).length≤64:=by
  have:=l8 (fj.1 hr).1.1
  simp only[List.length_map,List.length_take];omega
 simp only[dj,ej] at *
 omega
variable{o:Od}
theorem WL(hi:b.al.length≤i)(hw:w=ea b acc sym i):w=ej b acc sym 0:=by
 rw[hw];unfold ej ea;rw[List.take_of_length_le hi,List.take_length];simp[dg]
theorem CE(hb:b.ak[i]?=some o):ej b acc sym (i+1)=((ej b acc sym i).1+(fK acc sym o).1,(ej b acc sym i).2+(fK acc sym o).2):=by
 unfold ej
 rw[cF hb,List.map_append,rA]
 simp[dg,Int.add_assoc]
theorem U7(hb:b.ak[i]?=some o)(hw:w=ej b acc sym i)(h:¬(o.acc=acc∧o.sym=sym)):w=ej b acc sym (i+1):=by
 rw[CE hb,hw];unfold fK;rw[if_neg h];simp
theorem Y1(hr:aW b=true)(hb:b.ak[i]?=some o)(hw:w=ej b acc sym i)(h:o.acc=acc∧o.sym=sym):et w (dz o.az (dn o))=ej b acc sym (i+1):=by
 rw[CE hb,hw,oD (tD hr) (p5 (nO o).1 (nO o).2) ab];unfold fK;rw[if_pos h]
theorem Ke(hr:aW b=true)(hi:b.ak.length≤i)(hw:w=ej b acc sym i):w=fS b acc sym:=by
 rw[hw];unfold ej fS ea;rw[List.take_of_length_le hi,List.take_length,if_pos hr];rfl
end
end Go.Bk
namespace Go.Bk
open Go Go.Abs
section
variable{b:Bk}{x:Ex}{acc sym:Bs}
end
theorem TF{b:Bk}{acc sym:Bs}:dj (fS b acc sym) (320*1099511627776):=by
 unfold fS
 split
 ·rename_i hr
  have:=tD (acc:=acc) (sym:=sym) (i:=b.ak.length) hr
  have e:ej b acc sym b.ak.length=mT b acc sym:=by unfold ej ea mT;rw[List.take_length,List.take_length]
  rwa[e] at this
 ·simp[dj]
end Go.Bk
end
