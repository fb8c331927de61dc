/- Texts of one chain, put together (Pl, Pm, Pn, Po). -/
import Derived.Test.YtajeeghgiilhiaaGreatKwD
set_option linter.unusedVariables false
set_option linter.unusedSimpArgs false
set_option maxHeartbeats 16000000
set_option maxRecDepth 8000
section
namespace Go.Bk
abbrev Bs:=List UInt8
structure Od where
 id:Bs
 acc:Bs
 sym:Bs
 au:Bool
 al:Int
 aw:Int
 done:Int
 bg:Bool
 deriving DecidableEq
structure Ex where
 id:Bs
 ref:Bs
 ord:Bs
 acc:Bs
 sym:Bs
 kind:Int
 au:Bool
 al:Int
 aw:Int
 time:Int
 deriving DecidableEq
structure Dn where
 id:Bs
 ord:Bs
 acc:Bs
 sym:Bs
 au:Bool
 al:Int
 aw:Int
 time:Int
 live:Bool
 deriving DecidableEq
structure Bk where
 af:List Od
 ai:List Dn
 ids:List Bs
 clock:Int
 bad:Int
 deriving DecidableEq
def isName(c:UInt8):Bool:=(decide (65≤c.toNat)&&decide (c.toNat≤90))||(decide (97≤c.toNat)&&decide (c.toNat≤122))||(decide (48≤c.toNat)&&decide (c.toNat≤57))
def fy(s:Bs):Bool:=decide (1≤s.length)&&decide (s.length≤16)&&s.all isName
def bJ(n:Int):Bool:=decide (0≤n)&&decide (n≤1099511627776)
def lv(n:Int):Bool:=decide (0≤n)&&decide (n≤4611686018427387904)
def dh(x:Ex):Bool:=
 fy x.id&&fy x.ord&&fy x.acc&&fy x.sym &&
 (if x.kind=4∨x.kind=7∨x.kind=8 then fy x.ref else if x.kind=1∨x.kind=2∨x.kind=3∨x.kind=5∨x.kind=6 then decide (x.ref=[]) else false) &&
 bJ x.al&&bJ x.aw&&lv x.time
def gK(s:Bs):Bool:=decide (s≠[])&&decide (s.length≤16)
def bn(o:Od):Bool:=gK o.id&&gK o.acc&&gK o.sym&&bJ o.al&&bJ o.aw&&decide (0≤o.done)&&decide (o.done≤o.al)
def bS(l:List Od)(id:Bs):Option Nat:=l.findIdx? (fun o=>decide (o.id=id))
def bN(l:List Od)(id:Bs):Int:=match bS l id with|some n=>n|none=>-1
def jm(l:List Od)(n:Nat):Bool:=(List.range n).all fun i=>match l[i]? with|some o=>bn o&&(bS (l.take i) o.id).isNone|none=>true
def aU(l:List Od):Bool:=decide (l.length≤64)&&jm l l.length
def fS(l:List Od)(id:Bs):Int:=match bS l id with
 |some n=>match l[n]? with|some o=>if o.bg then n else -1|none=>-1
 |none=>-1
def db(o:Od):Int:=if bn o&&o.bg then o.al-o.done else 0
def er(o:Od)(aw:Int):Bool:=bJ aw&&(if o.au then decide (aw≤o.aw) else decide (o.aw≤aw))
def eH:Od:=⟨[],[],[],false,0,0,0,false⟩
def findF(l:List Od)(id:Bs):Od×Bool:=if aU l then match bS l id with
 |some n=>(l.getD n eH,true)
 |none=>(eH,false)
 else(eH,false)
theorem bI{α:Type}{l:List α}{i:Nat}{b:α}(h:l[i]?=some b):i<l.length:=by
 rcases Nat.lt_or_ge i l.length with h'|h'
 ·exact h'
 ·rw[List.getElem?_eq_none h'] at h;simp at h
theorem cp{α:Type}{l:List α}{i:Nat}{b:α}(h:l[i]?=some b):l.take (i+1)=l.take i++[b]:=by
 have hi:i<l.length:=by
  rcases Nat.lt_or_ge i l.length with h'|h'
  ·exact h'
  ·rw[List.getElem?_eq_none h'] at h;simp at h
 rw[List.getElem?_eq_getElem hi,Option.some.injEq] at h
 rw[List.take_add_one,List.getElem?_eq_getElem hi,h];rfl
theorem lj{α:Type}{l:List α}{p:α→Bool}{i:Nat}{b:α}(h:l[i]?=some b)(h1:(l.take i).all p=true)(h2:p b=true):(l.take (i+1)).all p=true:=by
 rw[cp h,List.all_append,h1];simp[h2]
theorem wA{s:Bs}(h:¬(1≤s.length∧s.length≤16)):fy s=false:=by
 unfold fy
 by_cases h1:1≤s.length
 ·have:¬s.length≤16:=fun h2=>h ⟨h1,h2⟩
  simp[this]
 ·simp[h1]
theorem yw{s:Bs}{i:Nat}{b:UInt8}(hb:s[i]?=some b)(h:isName b=false):fy s=false:=by
 have:s.all isName=false:=by
  cases ha:s.all isName with
  |false=>rfl
  |true=>rw[List.all_eq_true.1 ha b (List.mem_of_getElem? hb)] at h;simp at h
 unfold fy;rw[this];simp
theorem Mi{s:Bs}{i:Nat}(h:1≤s.length∧s.length≤16)(hi:s.length≤i)(ha:(s.take i).all isName=true):fy s=true:=by
 rw[List.take_of_length_le hi] at ha
 unfold fy;rw[ha];simp[h.1,h.2]
end Go.Bk
namespace Go.Bk
theorem mJ{l:List Od}{id:Bs}{n:Nat}(h:bS l id=some n):∃o,l[n]?=some o∧o.id=id∧∀k o',k<n→l[k]?=some o'→o'.id≠id:=by
 unfold bS at h
 obtain⟨hn,h1,h2⟩:=List.findIdx?_eq_some_iff_getElem.1 h
 refine⟨l[n],List.getElem?_eq_getElem hn,by simpa using h1,fun k o' hk ho=>?_⟩
 have hk':k<l.length:=by omega
 rw[List.getElem?_eq_getElem hk',Option.some.injEq] at ho
 have:=h2 k hk
 rw[ho] at this
 simpa using this
theorem X5{l:List Od}{id:Bs}{n:Nat}{o:Od}(h1:l[n]?=some o)(h2:o.id=id)(h3:(l.take n).all (fun o=>!decide (o.id=id))=true):bS l id=some n:=by
 have hn:n<l.length:=by
  rcases Nat.lt_or_ge n l.length with h'|h'
  ·exact h'
  ·rw[List.getElem?_eq_none h'] at h1;simp at h1
 rw[List.getElem?_eq_getElem hn,Option.some.injEq] at h1
 unfold bS
 refine List.findIdx?_eq_some_iff_getElem.2 ⟨hn,by rw[h1];simpa using h2,fun j hj=>?_⟩
 have hm:l[j]∈l.take n:=List.mem_iff_getElem?.2 ⟨j,by rw[List.getElem?_take,if_pos hj,List.getElem?_eq_getElem]⟩
 have:=List.all_eq_true.1 h3 _ hm
 simpa using this
theorem Dj{l:List Od}{id:Bs}{i:Nat}(hi:l.length≤i)(h3:(l.take i).all (fun o=>!decide (o.id=id))=true):bS l id=none:=by
 rw[List.take_of_length_le hi] at h3
 unfold bS
 rw[List.findIdx?_eq_none_iff]
 intro x hx
 have:=List.all_eq_true.1 h3 x hx
 simpa using this
theorem Nk{l:List Od}{id:Bs}{n:Nat}{o:Od}(h1:l[n]?=some o)(h2:o.id=id)(h3:(l.take n).all (fun o=>!decide (o.id=id))=true):bN l id=n:=by
 unfold bN;rw[X5 h1 h2 h3]
theorem Jx{l:List Od}{id:Bs}{i:Nat}(hi:l.length≤i)(h3:(l.take i).all (fun o=>!decide (o.id=id))=true):bN l id= -1:=by
 unfold bN;rw[Dj hi h3]
theorem iQ(l:List Od)(id:Bs):(bN l id= -1∧bS l id=none)∨∃n o,bN l id=(n:Nat)∧bS l id=some n∧l[n]?=some o:=by
 unfold bN
 cases h:bS l id with
 |none=>exact .inl ⟨rfl,rfl⟩
 |some n=>
  obtain⟨o,h1,_⟩:=mJ h
  exact .inr ⟨n,o,rfl,rfl,h1⟩
def gU(l:List Od)(i:Nat):Bool:=match l[i]? with|some o=>bn o&&(bS (l.take i) o.id).isNone|none=>true
theorem oj(l:List Od)(n:Nat):jm l n=(List.range n).all (gU l):=rfl
theorem AP{l:List Od}{n:Nat}(h:jm l n=true)(h2:gU l n=true):jm l (n+1)=true:=by
 rw[oj,List.range_succ,List.all_append,←oj,h];simp[h2]
theorem AZ{l:List Od}(h:¬l.length≤64):aU l=false:=by unfold aU;simp[h]
theorem p4{l:List Od}{n:Nat}(hn:n<l.length)(h2:gU l n=false):aU l=false:=by
 have:jm l l.length=false:=by
  cases h:jm l l.length with
  |false=>rfl
  |true=>rw[oj] at h;rw[List.all_eq_true.1 h n (List.mem_range.2 hn)] at h2;simp at h2
 unfold aU;rw[this];simp
theorem Bg{l:List Od}{n:Nat}(hl:l.length≤64)(hn:n=l.length)(h:jm l n=true):aU l=true:=by
 subst hn;unfold aU;rw[h];simp[hl]
theorem AN{l:List Od}{n:Nat}{o:Od}(h:l[n]?=some o)(h1:bn o=false):gU l n=false:=by unfold gU;rw[h];simp[h1]
theorem Hf{l:List Od}{n:Nat}{o:Od}(h:l[n]?=some o)(h1:0≤bN (l.take n) o.id):gU l n=false:=by
 unfold gU;rw[h]
 rcases iQ (l.take n) o.id with⟨e,_⟩|⟨k,p,_,e,_⟩
 ·omega
 ·simp[e]
theorem Pk{l:List Od}{n:Nat}{o:Od}(h:l[n]?=some o)(h1:bn o=true)(h2:¬0≤bN (l.take n) o.id):gU l n=true:=by
 unfold gU;rw[h]
 rcases iQ (l.take n) o.id with⟨_,e⟩|⟨k,p,e,_,_⟩
 ·simp[h1,e]
 ·omega
end Go.Bk
namespace Go.Bk
def cF(l:List Od)(id:Bs):Option Nat:=match bS l id with
 |some n=>if(l.getD n eH).bg then some n else none
 |none=>none
def cD(l:List Od)(o:Od):List Od×Int:=
 if aU l=false∨bn { o with bg:=true,done:=0 }=false then(l,1)
 else if(bS l o.id).isSome then(l,7)
 else if 64≤l.length then(l,5)
 else(l++[{ o with bg:=true,done:=0 }],0)
def dj(l:List Od)(id:Bs):List Od×Int:=
 if aU l=false then(l,1) else match cF l id with
 |none=>(l,6)
 |some n=>(l.set n { l.getD n eH with bg:=false },0)
def cc(l:List Od)(id:Bs)(q p:Int):List Od×Int:=
 if aU l=false then(l,1) else match cF l id with
 |none=>(l,6)
 |some n=>
  let o:=l.getD n eH
  if q<1∨db o<q then(l,1)
  else if er o p=false then(l,9)
  else(l.set n { o with done:=o.done+q,bg:=decide (o.done+q<o.al) },0)
def ca(l:List Od)(old id:Bs)(q p:Int):List Od×Int:=
 if aU l=false then(l,1) else match cF l old with
 |none=>(l,6)
 |some n=>
  let o:=l.getD n eH
  let o':={ o with id:=id,al:=q,aw:=p,bg:=decide (o.done<q) }
  if bn o'=false then(l,1)
  else if(bS l id).isSome then(l,7)
  else if 64≤l.length then(l,5)
  else(l.set n { o with bg:=false }++[o'],0)
theorem iK{l:List Od}{n:Nat}{o:Od}(h:l[n]?=some o):l.getD n eH=o:=by rw[List.getD_eq_getElem?_getD,h];rfl
theorem qR(l:List Od)(id:Bs):(fS l id= -1∧cF l id=none)∨∃n o,fS l id=(n:Nat)∧cF l id=some n∧l[n]?=some o∧o.bg=true:=by
 unfold fS cF
 cases h:bS l id with
 |none=>exact .inl ⟨rfl,rfl⟩
 |some n=>
  obtain⟨o,h1,_⟩:=mJ h
  simp only[h1,iK h1]
  by_cases ho:o.bg=true
  ·exact .inr ⟨n,o,by simp[ho],by simp[ho],h1,ho⟩
  ·exact .inl ⟨by simp[ho],by simp[ho]⟩
theorem TX{l:List Od}{id:Bs}{n:Nat}{o:Od}(h:bN l id=(n:Nat))(h1:l[n]?=some o)(h2:o.bg=false):fS l id= -1:=by
 rcases iQ l id with⟨e,_⟩|⟨k,p,e1,e2,e3⟩
 ·omega
 ·have:k=n:=by omega
  subst this
  unfold fS;rw[e2];simp[h1,h2]
theorem Tr{l:List Od}{id:Bs}{n:Nat}{o:Od}(h:bN l id=(n:Nat))(h1:l[n]?=some o)(h2:o.bg=true):fS l id=n:=by
 rcases iQ l id with⟨e,_⟩|⟨k,p,e1,e2,e3⟩
 ·omega
 ·have:k=n:=by omega
  subst this
  unfold fS;rw[e2];simp[h1,h2]
theorem MR{l:List Od}{id:Bs}(h:bN l id<0):fS l id=bN l id:=by
 rcases iQ l id with⟨e,e2⟩|⟨k,p,e1,e2,e3⟩
 ·unfold fS;rw[e2,e]
 ·omega
theorem mO{l:List Od}{id:Bs}:(bS l id).isSome=decide (0≤bN l id):=by
 rcases iQ l id with⟨e,e2⟩|⟨k,p,e1,e2,e3⟩
 ·rw[e2,e];rfl
 ·rw[e2,e1];simp
theorem KI{l:List Od}{id:Bs}(h:aU l=false):findF l id=(eH,false):=by unfold findF;simp[h]
theorem BI{l:List Od}{id:Bs}(h1:aU l=true)(h:bN l id<0):findF l id=(eH,false):=by
 rcases iQ l id with⟨e,e2⟩|⟨k,p,e1,e2,e3⟩
 ·unfold findF;simp[h1,e2]
 ·omega
theorem sf{l:List Od}{id:Bs}{n:Nat}{o:Od}(h1:aU l=true)(h:bN l id=(n:Nat))(h2:l[n]?=some o):findF l id=(o,true):=by
 rcases iQ l id with⟨e,e2⟩|⟨k,p,e1,e2,e3⟩
 ·omega
 ·have:k=n:=by omega
  subst this
  unfold findF;simp[h1,e2,iK h2,h2]
end Go.Bk
namespace Go.Bk
theorem we{l:List Od}{o:Od}(h:aU l=false):(cD l o).2=1:=by unfold cD;simp[h]
theorem y8{l:List Od}{o:Od}(h:bn ⟨o.id,o.acc,o.sym,o.au,o.al,o.aw,0,true⟩=false):(cD l o).2=1:=by unfold cD;simp[h]
theorem yR{l:List Od}{o:Od}(h1:aU l=true)(h2:bn ⟨o.id,o.acc,o.sym,o.au,o.al,o.aw,0,true⟩=true)(h:0≤bN l o.id):(cD l o).2=7:=by unfold cD;simp[h1,h2,mO,h]
theorem yP{l:List Od}{o:Od}(h1:aU l=true)(h2:bn ⟨o.id,o.acc,o.sym,o.au,o.al,o.aw,0,true⟩=true)(h3:¬0≤bN l o.id)(h:64≤l.length):(cD l o).2=5:=by unfold cD;simp[h1,h2,mO,h3,h]
theorem wZ{l:List Od}{o:Od}(h1:aU l=true)(h2:bn ⟨o.id,o.acc,o.sym,o.au,o.al,o.aw,0,true⟩=true)(h3:¬0≤bN l o.id)(h:¬64≤l.length):cD l o=(l++[⟨o.id,o.acc,o.sym,o.au,o.al,o.aw,0,true⟩],0):=by unfold cD;simp[h1,h2,mO,h3,h]
theorem Tt{l:List Od}{id:Bs}(h:aU l=false):(dj l id).2=1:=by unfold dj;simp[h]
theorem Gd{l:List Od}{id:Bs}(h1:aU l=true)(h:cF l id=none):(dj l id).2=6:=by unfold dj;simp[h1,h]
theorem BL{l:List Od}{id:Bs}{n:Nat}{o:Od}(h1:aU l=true)(h:cF l id=some n)(h2:l[n]?=some o):dj l id=(l.set n ⟨o.id,o.acc,o.sym,o.au,o.al,o.aw,o.done,false⟩,0):=by unfold dj;simp[h1,h,iK h2,h2]
theorem y3{l:List Od}{id:Bs}{q p:Int}(h:aU l=false):(cc l id q p).2=1:=by unfold cc;simp[h]
theorem ue{l:List Od}{id:Bs}{q p:Int}(h1:aU l=true)(h:cF l id=none):(cc l id q p).2=6:=by unfold cc;simp[h1,h]
theorem rA{l:List Od}{id:Bs}{q p:Int}{n:Nat}{o:Od}(h1:aU l=true)(h:cF l id=some n)(h2:l[n]?=some o)(h3:q<1∨db o<q):(cc l id q p).2=1:=by unfold cc;simp[h1,h,h2,h3]
theorem xN{l:List Od}{id:Bs}{q p:Int}{n:Nat}{o:Od}(h1:aU l=true)(h:cF l id=some n)(h2:l[n]?=some o)(h3:¬q<1)(h4:¬db o<q)(h5:er o p=false):(cc l id q p).2=9:=by unfold cc;simp[h1,h,h2,h3,h4,h5]
theorem kr{l:List Od}{id:Bs}{q p:Int}{n:Nat}{o:Od}(h1:aU l=true)(h:cF l id=some n)(h2:l[n]?=some o)(h3:¬q<1)(h4:¬db o<q)(h5:er o p=true):cc l id q p=(l.set n ⟨o.id,o.acc,o.sym,o.au,o.al,o.aw,o.done+q,decide (o.done+q<o.al)⟩,0):=by unfold cc;simp[h1,h,h2,h3,h4,h5]
theorem kX{l:List Od}{n:Nat}{o:Od}(h:aU l=true)(h2:l[n]?=some o):bn o=true:=by
 have hn:n<l.length:=by
  rcases Nat.lt_or_ge n l.length with h'|h'
  ·exact h'
  ·rw[List.getElem?_eq_none h'] at h2;simp at h2
 unfold aU at h
 simp only[Bool.and_eq_true] at h
 have:=List.all_eq_true.1 h.2 n (List.mem_range.2 hn)
 rw[h2] at this
 simp only[Bool.and_eq_true] at this
 exact this.1
theorem Br{o:Od}{q:Int}(h:bn o=true)(h3:¬q<1)(h4:¬db o<q):0≤o.done∧1≤q∧o.done+q≤1099511627776:=by
 have hm:=h
 simp only[bn,bJ,Bool.and_eq_true,decide_eq_true_eq] at hm
 by_cases ho:o.bg=true
 ·have:db o=o.al-o.done:=by unfold db;simp[h,ho]
  omega
 ·have:db o=0:=by unfold db;simp[ho]
  omega
theorem ly{l:List Od}(h:aU l=true):l.length≤64:=by
 unfold aU at h
 simp only[Bool.and_eq_true,decide_eq_true_eq] at h
 exact h.1
theorem rV{l:List Od}{a b:Bs}{q p:Int}(h:aU l=false):(ca l a b q p).2=1:=by unfold ca;simp[h]
theorem oy{l:List Od}{a b:Bs}{q p:Int}(h1:aU l=true)(h:cF l a=none):(ca l a b q p).2=6:=by unfold ca;simp[h1,h]
theorem xP{l:List Od}{a b:Bs}{q p:Int}{n:Nat}{o:Od}(h1:aU l=true)(h:cF l a=some n)(h2:l[n]?=some o)(h3:bn ⟨b,o.acc,o.sym,o.au,q,p,o.done,decide (o.done<q)⟩=false):(ca l a b q p).2=1:=by unfold ca;simp[h1,h,h2,h3]
theorem qN{l:List Od}{a b:Bs}{q p:Int}{n:Nat}{o:Od}(h1:aU l=true)(h:cF l a=some n)(h2:l[n]?=some o)(h3:bn ⟨b,o.acc,o.sym,o.au,q,p,o.done,decide (o.done<q)⟩=true)(h4:0≤bN l b):(ca l a b q p).2=7:=by unfold ca;simp[h1,h,h2,h3,mO,h4]
theorem BF{l:List Od}{a b:Bs}{q p:Int}{n:Nat}{o:Od}(h1:aU l=true)(h:cF l a=some n)(h2:l[n]?=some o)(h3:bn ⟨b,o.acc,o.sym,o.au,q,p,o.done,decide (o.done<q)⟩=true)(h4:¬0≤bN l b)(h5:64≤l.length):(ca l a b q p).2=5:=by unfold ca;simp[h1,h,h2,h3,mO,h4,h5]
theorem BQ{l:List Od}{a b:Bs}{q p:Int}{n:Nat}{o:Od}(h1:aU l=true)(h:cF l a=some n)(h2:l[n]?=some o)(h3:bn ⟨b,o.acc,o.sym,o.au,q,p,o.done,decide (o.done<q)⟩=true)(h4:¬0≤bN l b)(h5:¬64≤l.length):ca l a b q p=(l.set n ⟨o.id,o.acc,o.sym,o.au,o.al,o.aw,o.done,false⟩++[⟨b,o.acc,o.sym,o.au,q,p,o.done,decide (o.done<q)⟩],0):=by unfold ca;simp[h1,h,h2,h3,mO,h4,h5]
theorem px{l:List Od}{id:Bs}(h:fS l id<0):cF l id=none:=by
 rcases qR l id with⟨_,e⟩|⟨n,o,e,_⟩
 ·exact e
 ·omega
end Go.Bk
namespace Go.Bk
def dF(l:List Dn)(id:Bs):Option Nat:=l.findIdx? (fun f=>decide (f.id=id))
def fv(l:List Dn)(id:Bs):Int:=match dF l id with|some n=>n|none=>-1
def eM(l:List Bs)(id:Bs):Int:=match l.findIdx? (fun s=>decide (id=s)) with|some n=>n|none=>-1
def kF(l:List Bs)(id:Bs):Bool:=decide (0≤eM l id)
def mg:Dn:=⟨[],[],[],[],false,0,0,0,false⟩
def bH(b:Bk)(x:Ex):Bk×Int:=match dF b.ai x.ref with
 |none=>(b,6)
 |some n=>
  let f:=b.ai.getD n mg
  if f.live=false∨10<x.time-f.time then(b,6)
  else if f.ord≠x.ord∨f.acc≠x.acc∨f.sym≠x.sym∨f.au≠x.au then(b,3)
  else if x.kind=7 then({ b with ai:=b.ai.set n { f with live:=false } },0)
  else if f.al<x.al then(b,4)
  else if(findF b.af f.ord).2=false∨er { (findF b.af f.ord).1 with au:=f.au } x.aw=false then(b,5)
  else({ b with ai:=b.ai.set n { f with al:=x.al,aw:=x.aw } },0)
def iO(x:Ex):Dn:=⟨x.id,x.ord,x.acc,x.sym,x.au,x.al,x.aw,x.time,true⟩
def dH(b:Bk)(x:Ex):Bk×Int:=
 let r:=cc b.af x.ord x.al x.aw
 if r.2=0 then({ b with af:=r.1,ai:=b.ai++[iO x] },0)
 else if r.2=1 then(b,4) else if r.2=9 then(b,5) else(b,2)
def dN(b:Bk)(x:Ex):Bk×Int:=
 let r:=ca b.af x.ref x.ord x.al x.aw
 if r.2=0 then({ b with af:=r.1 },0) else if r.2=1 then(b,4) else(b,2)
def fY(x:Ex):Od:=⟨x.ord,x.acc,x.sym,x.au,x.al,x.aw,0,false⟩
def bK(b:Bk)(x:Ex):Bk×Int:=
 if x.time<b.clock then(b,1)
 else if x.kind=1 then(let r:=cD b.af (fY x);if r.2=0 then({ b with af:=r.1 },0) else(b,2))
 else if x.kind=7∨x.kind=8 then bH b x
 else
  let o:=findF b.af (if x.kind=4 then x.ref else x.ord)
  if o.2=false∨o.1.bg=false then(b,2)
  else if o.1.acc≠x.acc∨o.1.sym≠x.sym∨o.1.au≠x.au then(b,3)
  else if x.kind=2 then dH b x
  else if x.kind=4 then dN b x
  else(let r:=dj b.af x.ord;if r.2=0 then({ b with af:=r.1 },0) else(b,2))
def bM(b:Bk)(x:Ex):Bk×Int:=
 if b.bad≠0∨256≤b.ids.length then(b,4)
 else if kF b.ids x.id then(b,2)
 else
  let r:=bK { b with ids:=b.ids++[x.id] } x
  if r.2≠0 then({ r.1 with bad:=r.2 },3)
  else({ r.1 with clock:=x.time },1)
def me:Bk:=⟨[],[],[],0,0⟩
def ig(l:List Ex):Bk:=l.foldl (fun b x=>if dh x then(bM b x).1 else b) me
theorem HS{l:List Dn}{id:Bs}{n:Nat}{o:Dn}(h1:l[n]?=some o)(h2:o.id=id)(h3:(l.take n).all (fun o=>!decide (o.id=id))=true):fv l id=n:=by
 have hn:=bI h1
 rw[List.getElem?_eq_getElem hn,Option.some.injEq] at h1
 have:dF l id=some n:=by
  unfold dF
  refine List.findIdx?_eq_some_iff_getElem.2 ⟨hn,by rw[h1];simpa using h2,fun j hj=>?_⟩
  have hm:l[j]∈l.take n:=List.mem_iff_getElem?.2 ⟨j,by rw[List.getElem?_take,if_pos hj,List.getElem?_eq_getElem]⟩
  have:=List.all_eq_true.1 h3 _ hm
  simpa using this
 unfold fv;rw[this]
theorem Fw{l:List Dn}{id:Bs}{i:Nat}(hi:l.length≤i)(h3:(l.take i).all (fun o=>!decide (o.id=id))=true):fv l id= -1:=by
 rw[List.take_of_length_le hi] at h3
 have:dF l id=none:=by
  unfold dF
  rw[List.findIdx?_eq_none_iff]
  intro x hx
  have:=List.all_eq_true.1 h3 x hx
  simpa using this
 unfold fv;rw[this]
theorem uN(l:List Dn)(id:Bs):(fv l id= -1∧dF l id=none)∨∃n o,fv l id=(n:Nat)∧dF l id=some n∧l[n]?=some o:=by
 unfold fv
 cases h:dF l id with
 |none=>exact .inl ⟨rfl,rfl⟩
 |some n=>
  obtain⟨hn,_⟩:=List.findIdx?_eq_some_iff_getElem.1 h
  exact .inr ⟨n,l[n],rfl,rfl,List.getElem?_eq_getElem hn⟩
theorem RA{l:List Bs}{id s:Bs}{n:Nat}(h1:l[n]?=some s)(h2:id=s)(h3:(l.take n).all (fun s=>!decide (id=s))=true):eM l id=n:=by
 have hn:=bI h1
 rw[List.getElem?_eq_getElem hn,Option.some.injEq] at h1
 have:l.findIdx? (fun s=>decide (id=s))=some n:=by
  refine List.findIdx?_eq_some_iff_getElem.2 ⟨hn,by rw[h1];simpa using h2,fun j hj=>?_⟩
  have hm:l[j]∈l.take n:=List.mem_iff_getElem?.2 ⟨j,by rw[List.getElem?_take,if_pos hj,List.getElem?_eq_getElem]⟩
  have:=List.all_eq_true.1 h3 _ hm
  simpa using this
 unfold eM;rw[this]
theorem Pv{l:List Bs}{id:Bs}{i:Nat}(hi:l.length≤i)(h3:(l.take i).all (fun s=>!decide (id=s))=true):eM l id= -1:=by
 rw[List.take_of_length_le hi] at h3
 have:l.findIdx? (fun s=>decide (id=s))=none:=by
  rw[List.findIdx?_eq_none_iff]
  intro x hx
  have:=List.all_eq_true.1 h3 x hx
  simpa using this
 unfold eM;rw[this]
theorem mA{l:List Dn}{n:Nat}{o:Dn}(h:l[n]?=some o):l.getD n mg=o:=by rw[List.getD_eq_getElem?_getD,h];rfl
end Go.Bk
namespace Go.Bk
theorem Lf(l:List Od)(id:Bs)(q p:Int):(cc l id q p).1.length=l.length:=by
 unfold cc
 repeat' split
 all_goals first|rfl|simp
 all_goals(repeat' split)<;>simp
theorem MU(l:List Od)(id:Bs):(dj l id).1.length=l.length:=by
 unfold dj
 repeat' split
 all_goals first|rfl|simp
theorem DV(l:List Od)(o:Od):(cD l o).1.length≤l.length+1:=by
 unfold cD
 repeat' split
 all_goals first|(simp;done)|omega
theorem S5(l:List Od)(a b:Bs)(q p:Int):(ca l a b q p).1.length≤l.length+1:=by
 unfold ca
 split
 ·simp
 ·split
  ·simp
  ·dsimp only
   repeat' split
   all_goals first|(simp;done)|omega
def kO(b c:Bk):Prop:=c.af.length≤b.af.length+1∧c.ai.length≤b.ai.length+1∧c.ids=b.ids
theorem Sa(b:Bk)(x:Ex):kO b (dH b x).1:=by
 unfold dH kO
 dsimp only
 have:=Lf b.af x.ord x.al x.aw
 repeat' split
 all_goals simp;try omega
theorem Pu(b:Bk)(x:Ex):kO b (dN b x).1:=by
 unfold dN kO
 dsimp only
 have:=S5 b.af x.ref x.ord x.al x.aw
 repeat' split
 all_goals simp;try omega
theorem OJ(b:Bk)(x:Ex):kO b (bH b x).1:=by
 unfold bH kO
 split
 ·simp
 ·dsimp only
  repeat' split
  all_goals simp
theorem Ba(b:Bk)(x:Ex):kO b (bK b x).1:=by
 have h1:=DV b.af (fY x)
 have h2:=MU b.af x.ord
 unfold bK
 dsimp only
 repeat' split
 all_goals first|exact OJ b x|exact Sa b x|exact Pu b x|(unfold kO;simp;try omega)
theorem zj(b:Bk)(x:Ex):(bM b x).1.af.length≤b.af.length+1∧(bM b x).1.ai.length≤b.ai.length+1∧(bM b x).1.ids.length≤b.ids.length+1:=by
 have h:=Ba { b with ids:=b.ids++[x.id] } x
 unfold kO at h
 dsimp only at h
 unfold bM
 dsimp only
 repeat' split
 all_goals dsimp only
 ·omega
 ·omega
 ·refine⟨h.1,h.2.1,?_⟩;rw[h.2.2];simp
 ·refine⟨h.1,h.2.1,?_⟩;rw[h.2.2];simp
def k6(b:Bk):Prop:=∀f∈b.ai,0≤f.time∧f.time≤4611686018427387904
theorem Us{l:List Dn}{n:Nat}{g:Dn}(h:∀f∈l,0≤f.time∧f.time≤4611686018427387904)(hg:n<l.length→g.time=(l.getD n mg).time):∀f∈l.set n g,0≤f.time∧f.time≤4611686018427387904:=by
 intro f hf
 by_cases hn:n<l.length
 ·rcases List.mem_or_eq_of_mem_set hf with h1|h1
  ·exact h f h1
  ·subst h1
   rw[hg hn,List.getD_eq_getElem?_getD,List.getElem?_eq_getElem hn]
   exact h _ (List.getElem_mem hn)
 ·rw[List.set_eq_of_length_le (by omega)] at hf;exact h f hf
theorem II{b:Bk}{x:Ex}(h:k6 b)(hx:0≤x.time∧x.time≤4611686018427387904):k6 (bK b x).1:=by
 have ha:k6 (bH b x).1:=by
  unfold bH
  split
  ·exact h
  ·dsimp only
   repeat' split
   all_goals first|exact h|exact Us h (fun _=>rfl)
 have hf:k6 (dH b x).1:=by
  unfold dH
  dsimp only
  repeat' split
  all_goals first|exact h|skip
  intro f hf
  rcases List.mem_append.1 hf with hf|hf
  ·exact h f hf
  ·simp only[List.mem_singleton] at hf;subst hf;exact hx
 have hr:k6 (dN b x).1:=by
  unfold dN
  dsimp only
  repeat' split
  all_goals exact h
 unfold bK
 dsimp only
 repeat' split
 all_goals first|exact ha|exact hf|exact hr|exact h
theorem Yn{b:Bk}{x:Ex}(h:k6 b)(hx:0≤x.time∧x.time≤4611686018427387904):k6 (bM b x).1:=by
 have h2:k6 { b with ids:=b.ids++[x.id] }:=h
 have h3:=II h2 hx
 unfold bM
 dsimp only
 repeat' split
 all_goals first|exact h|exact h3
def eR(b:Bk)(x:Ex):Bk:=if dh x then(bM b x).1 else b
theorem oO(l:List Ex):ig l=l.foldl eR me:=rfl
theorem De{l:List Ex}{i:Nat}{x:Ex}(h:l[i]?=some x):(l.take (i+1)).foldl eR me=eR ((l.take i).foldl eR me) x:=by
 rw[cp h,List.foldl_append];rfl
end Go.Bk
namespace Go.Bk
theorem nL{l:List Bs}{id:Bs}:kF l id=true↔id∈l:=by
 unfold kF eM
 cases h:l.findIdx? (fun s=>decide (id=s)) with
 |none=>
  rw[List.findIdx?_eq_none_iff] at h
  simp only[decide_eq_true_eq]
  constructor
  ·intro e;omega
  ·intro e;have:=h id e;simp at this
 |some n=>
  obtain⟨hn,h1,_⟩:=List.findIdx?_eq_some_iff_getElem.1 h
  simp only[decide_eq_true_eq] at h1 ⊢
  constructor
  ·intro _;rw[h1];exact List.getElem_mem hn
  ·intro _;omega
def Told(x:Ex)(b:Bk):Prop:=b.bad≠0∨256≤b.ids.length∨x.id∈b.ids
theorem ua{b:Bk}{x:Ex}(h:Told x b):(bM b x).1=b:=by
 unfold bM
 by_cases h1:b.bad≠0∨256≤b.ids.length
 ·rw[if_pos h1]
 ·rw[if_neg h1]
  have:x.id∈b.ids:=by
   rcases h with h|h|h
   ·exact absurd (.inl h) h1
   ·exact absurd (.inr h) h1
   ·exact h
  rw[if_pos (nL.2 this)]
theorem xt(b:Bk)(y:Ex)(h1:¬(b.bad≠0∨256≤b.ids.length))(h2:¬y.id∈b.ids):(bM b y).1.ids=b.ids++[y.id]:=by
 have h:=(Ba { b with ids:=b.ids++[y.id] } y).2.2
 dsimp only at h
 unfold bM
 rw[if_neg h1,if_neg (fun e=>h2 (nL.1 e))]
 dsimp only
 split
 ·exact h
 ·exact h
theorem Hv(b:Bk)(x:Ex):Told x (bM b x).1:=by
 by_cases h1:Told x b
 ·rw[ua h1];exact h1
 ·have h2:¬(b.bad≠0∨256≤b.ids.length):=fun e=>h1 (by rcases e with e|e;exact .inl e;exact .inr (.inl e))
  have h3:¬x.id∈b.ids:=fun e=>h1 (.inr (.inr e))
  exact .inr (.inr (by rw[xt b x h2 h3];simp))
theorem Dy{b:Bk}{x y:Ex}(h:Told x b):Told x (bM b y).1:=by
 by_cases h1:Told y b
 ·rw[ua h1];exact h
 ·have h2:¬(b.bad≠0∨256≤b.ids.length):=fun e=>h1 (by rcases e with e|e;exact .inl e;exact .inr (.inl e))
  have h3:¬y.id∈b.ids:=fun e=>h1 (.inr (.inr e))
  rcases h with h|h|h
  ·exact absurd (.inl h) h2
  ·exact absurd (.inr h) h2
  ·exact .inr (.inr (by rw[xt b y h2 h3];exact List.mem_append_left _ h))
theorem Ty{b:Bk}{x y:Ex}(h:Told x b):Told x (eR b y):=by
 unfold eR
 split
 ·exact Dy h
 ·exact h
theorem QC{l:List Ex}{x:Ex}{b:Bk}(h:Told x b):Told x (l.foldl eR b):=by
 induction l generalizing b with
 |nil=>exact h
 |cons y l ih=>exact ih (Ty h)
theorem WD{l:List Ex}{x:Ex}{b:Bk}(hx:x∈l)(he:dh x=true):Told x (l.foldl eR b):=by
 induction l generalizing b with
 |nil=>simp at hx
 |cons y l ih=>
  rcases List.mem_cons.1 hx with rfl|hx
  ·refine QC (l:=l) (b:=eR b x) ?_
   unfold eR;rw[if_pos he];exact Hv b x
  ·exact ih hx
theorem YU{m l:List Ex}{x:Ex}(h:ig m=ig l)(hx:x∈l):ig (m++[x])=ig l:=by
 rw[oO,List.foldl_append,←oO,h]
 show eR (ig l) x=_
 unfold eR
 by_cases he:dh x=true
 ·rw[if_pos he];exact ua (WD hx he)
 ·rw[if_neg he]
theorem Yf{m l:List Ex}{i:Nat}{x:Ex}(h:ig m=ig (l.take i))(hx:l[i]?=some x):ig (m++[x])=ig (l.take (i+1)):=by
 rw[oO,List.foldl_append,←oO,h,oO (l.take (i+1)),De hx];rfl
theorem YR(l:List Ex):(ig l).af.length≤l.length∧(ig l).ai.length≤l.length∧(ig l).ids.length≤l.length:=by
 have:∀(l:List Ex) (b:Bk),(l.foldl eR b).af.length≤b.af.length+l.length∧(l.foldl eR b).ai.length≤b.ai.length+l.length∧(l.foldl eR b).ids.length≤b.ids.length+l.length:=by
  intro l
  induction l with
  |nil=>intro b;simp
  |cons x l ih=>
   intro b
   have h1:=ih (eR b x)
   have h2:(eR b x).af.length≤b.af.length+1∧(eR b x).ai.length≤b.ai.length+1∧(eR b x).ids.length≤b.ids.length+1:=by
    unfold eR
    split
    ·exact zj b x
    ·omega
   simp only[List.foldl_cons,List.length_cons]
   omega
 have h:=this l me
 simp only[me,List.length_nil,Nat.zero_add] at h
 exact h
def P0:List Ex:=[⟨[97],[],[111],[99],[115],1,true,10,5,0⟩,⟨[98],[],[111],[99],[115],2,true,4,5,0⟩,⟨[98],[],[111],[99],[115],2,true,4,5,0⟩]
theorem Yh:ig P0=⟨[⟨[111],[99],[115],true,10,5,4,true⟩],[⟨[98],[111],[99],[115],true,4,5,0,true⟩],[[97],[98]],0,0⟩:=by decide
theorem drop_cons{α:Type}{l:List α}{i:Nat}{x:α}(h:l[i]?=some x):l.drop i=x::l.drop (i+1):=by
 obtain⟨hi,rfl⟩:=List.getElem?_eq_some_iff.1 h
 exact List.drop_eq_getElem_cons hi
def gj{α:Type}(p:α→Bool):Int→List α→Int
 |_,[]=>-1
 |i,x::l=>if p x then i else gj p (i+1) l
def kY{α:Type}(p:α→Bool)(l:List α):Int:=gj p 0 l
theorem wF{α:Type}(p:α→Bool):∀(l:List α) (i:Int),gj p i l=match l.findIdx? p with|some n=>i+n|none=>-1
 |[],i=>rfl
 |x::l,i=>by
  unfold gj
  rw[List.findIdx?_cons]
  by_cases h:p x=true
  ·simp[h]
  ·simp only[h,Bool.false_eq_true,if_false]
   rw[wF p l (i+1)]
   cases l.findIdx? p with
   |none=>rfl
   |some n=>simp only[Option.map_some,Int.natCast_add,Int.natCast_one];show i+1+(n:Int)=i+((n:Int)+1);omega
theorem oH{α:Type}(p:α→Bool)(l:List α):kY p l=match l.findIdx? p with|some n=>(n:Int)|none=>-1:=by
 unfold kY;rw[wF]
 cases l.findIdx? p with
 |none=>rfl
 |some n=>simp
theorem yK(l:List Od)(id:Bs):bN l id=kY (fun o=>decide (o.id=id)) l:=by rw[oH];rfl
theorem Cc(l:List Dn)(id:Bs):fv l id=kY (fun o=>decide (o.id=id)) l:=by rw[oH];rfl
theorem PY(l:List Bs)(id:Bs):eM l id=kY (fun s=>decide (id=s)) l:=by rw[oH];rfl
theorem uy(l:List Bs)(id:Bs):eM l id=kY (fun s=>decide (s=id)) l:=by
 rw[PY];congr 1;funext s;simp[eq_comm]
theorem Uf{α:Type}{p:α→Bool}{l:List α}:kY p l<0↔∀x∈l,p x=false:=by
 rw[oH]
 cases h:l.findIdx? p with
 |none=>simp[List.findIdx?_eq_none_iff.1 h];exact fun x hx=>by simpa using List.findIdx?_eq_none_iff.1 h x hx
 |some n=>
  obtain⟨hn,h1,_⟩:=List.findIdx?_eq_some_iff_getElem.1 h
  constructor
  ·intro h;exact absurd h (by show ¬((n:Nat):Int)<0;omega)
  ·intro h
   have:=h l[n] (List.getElem_mem hn)
   rw[this] at h1;simp at h1
theorem uB{α:Type}{p:α→Bool}{l:List α}{i:Nat}{x:α}(h:l[i]?=some x)(hp:p x=true):kY p l=i↔∀y∈l.take i,p y=false:=by
 have hi:=(List.getElem?_eq_some_iff.1 h).1
 have hx:=(List.getElem?_eq_some_iff.1 h).2
 rw[oH]
 cases hf:l.findIdx? p with
 |none=>
  have:=List.findIdx?_eq_none_iff.1 hf x (List.mem_of_getElem? h)
  rw[hp] at this;simp at this
 |some n=>
  obtain⟨hn,h1,h2⟩:=List.findIdx?_eq_some_iff_getElem.1 hf
  simp only[Int.ofNat_inj]
  constructor
  ·rintro rfl y hy
   obtain⟨k,hk⟩:=List.mem_iff_getElem?.1 hy
   rw[List.getElem?_take] at hk
   split at hk
   ·rename_i hkn
    have:=h2 k hkn
    have hk':=(List.getElem?_eq_some_iff.1 hk).2
    rw[hk'] at this;simpa using this
   ·simp at hk
  ·intro h
   rcases Nat.lt_trichotomy n i with h3|h3|h3
   ·have:l[n]∈l.take i:=List.mem_iff_getElem?.2 ⟨n,by rw[List.getElem?_take,if_pos h3,List.getElem?_eq_getElem]⟩
    have:=h _ this
    rw[h1] at this;simp at this
   ·exact h3
   ·have:=h2 i h3
    rw[hx,hp] at this;simp at this
def fm:List Bs→Bool
 |x::y::l=>decide (y=x)||fm (y::l)
 |_=>false
theorem SK(a b c:Bs)(h1:decide (a≤b)=true)(h2:decide (b≤c)=true):decide (a≤c)=true:=by
 simp only[decide_eq_true_eq] at *;exact List.le_trans h1 h2
theorem Cz(a b:Bs):(decide (a≤b)||decide (b≤a))=true:=by
 simp only[Bool.or_eq_true,decide_eq_true_eq];exact List.le_total a b
theorem vI:∀{l:List Bs},l.Pairwise (fun a b=>a≤b)→(fm l=false↔l.Nodup)
 |[],_=>by simp[fm]
 |[x],_=>by simp[fm]
 |x::y::l,h=>by
  have ih:=vI (List.pairwise_cons.1 h).2
  unfold fm
  rw[Bool.or_eq_false_iff,ih,List.nodup_cons (a:=x),decide_eq_false_iff_not]
  constructor
  ·rintro⟨h1,h2⟩
   refine⟨fun hx=>?_,h2⟩
   rcases List.mem_cons.1 hx with rfl|hx
   ·exact h1 rfl
   ·have h3:=(List.pairwise_cons.1 h).1 y (List.mem_cons_self ..)
    have h4:=(List.pairwise_cons.1 (List.pairwise_cons.1 h).2).1 x hx
    exact h1 (List.le_antisymm h4 h3)
  ·rintro⟨h1,h2⟩
   exact⟨fun e=>h1 (by rw[e];exact List.mem_cons_self ..),h2⟩
abbrev l6(l:List Bs):List Bs:=l.mergeSort fun x y=>decide (x≤y)
theorem zx(l:List Bs):(l6 l).Pairwise (fun a b=>a≤b):=by
 have:=List.pairwise_mergeSort (le:=fun x y:Bs=>decide (x≤y)) SK Cz l
 exact this.imp (fun h=>by simpa using h)
theorem sq(l:List Bs):fm (l6 l)=!decide l.Nodup:=by
 have h1:=vI (zx l)
 have h2:(l6 l).Nodup↔l.Nodup:=(List.mergeSort_perm l _).nodup_iff
 rw[h2] at h1
 by_cases h:l.Nodup
 ·rw[h1.2 h];simp[h]
 ·cases hb:fm (l6 l) with
  |true=>simp[h]
  |false=>exact absurd (h1.1 hb) h
theorem wP{l:List Bs}{x:Bs}:x∈l6 l↔x∈l:=List.mem_mergeSort
def cd(b:Bk)(f:Dn):Bool:=bJ f.al&&bJ f.aw&&decide (0≤f.time)&&decide (f.time≤b.clock)&&decide (f.id∈b.ids)
def fC(b:Bk):Bool:=aU b.af&&decide (b.ai.length≤256)&&decide (b.ids.length≤256)&&decide (0≤b.clock)&&decide (b.clock≤4611686018427387904)&&decide (0≤b.bad)&&decide (b.bad≤6)
def aQ(b:Bk):Bool:=fC b&&decide b.ids.Nodup&&b.ai.all (cd b)&&decide (b.ai.map (·.id)).Nodup
def aY(b:Bk)(x:Ex):Bk×Int:=if aQ b&&dh x then bM b x else(b,0)
end Go.Bk
namespace Go.Bk
theorem nx{l:List Od}{id:Bs}:(bS l id).isNone=decide (id∉l.map (·.id)):=by
 unfold bS
 cases h:l.findIdx? (fun o=>decide (o.id=id)) with
 |none=>
  have:=List.findIdx?_eq_none_iff.1 h
  simp only[Option.isNone_none]
  symm;rw[decide_eq_true_eq]
  intro hm
  obtain⟨o,ho,rfl⟩:=List.mem_map.1 hm
  have:=this o ho
  simp at this
 |some n=>
  obtain⟨hn,h1,_⟩:=List.findIdx?_eq_some_iff_getElem.1 h
  simp only[Option.isNone_some]
  symm;rw[decide_eq_false_iff_not]
  intro hm
  exact hm (List.mem_map.2 ⟨l[n],List.getElem_mem hn,by simpa using h1⟩)
theorem zA(l:List Od):∀n,n≤l.length→(jm l n=true↔(∀o∈l.take n,bn o=true)∧((l.take n).map (·.id)).Nodup)
 |0,_=>by simp[jm]
 |n+1,h=>by
  have ih:=zA l n (by omega)
  have hn:l[n]?=some l[n]:=List.getElem?_eq_getElem (by omega)
  rw[oj,List.range_succ,List.all_append,←oj,Bool.and_eq_true,ih,cp hn]
  simp only[List.all_cons,List.all_nil,Bool.and_true,gU,hn,nx,Bool.and_eq_true,decide_eq_true_eq,List.map_append,List.map_cons,List.map_nil,List.nodup_append,List.mem_append,List.mem_singleton]
  constructor
  ·rintro⟨⟨h1,h2⟩,h3,h4⟩
   refine⟨fun o ho=>?_,h2,by simp,?_⟩
   ·rcases ho with ho|rfl
    ·exact h1 o ho
    ·exact h3
   ·intro a ha b hb e
    subst hb;subst e
    exact h4 ha
  ·rintro⟨h1,h2,_,h4⟩
   refine⟨⟨fun o ho=>h1 o (.inl ho),h2⟩,h1 _ (.inr rfl),fun hm=>h4 _ hm _ (by simp) rfl⟩
theorem jw{l:List Od}:aU l=true↔l.length≤64∧(∀o∈l,bn o=true)∧(l.map (·.id)).Nodup:=by
 unfold aU
 rw[Bool.and_eq_true,decide_eq_true_eq,zA l l.length (Nat.le_refl _),List.take_length]
theorem uF{l:List Od}{o:Od}(h:aU l=true)(h1:bn o=true)(h2:bS l o.id=none)(h3:l.length<64):aU (l++[o])=true:=by
 rw[jw] at h ⊢
 have h4:o.id∉l.map (·.id):=by
  have:(bS l o.id).isNone=true:=by rw[h2];rfl
  rw[nx] at this;simpa using this
 refine⟨by simp;omega,fun p hp=>?_,?_⟩
 ·rcases List.mem_append.1 hp with hp|hp
  ·exact h.2.1 p hp
  ·rw[List.mem_singleton.1 hp];exact h1
 ·rw[List.map_append,List.nodup_append]
  refine⟨h.2.2,by simp,fun a ha b hb e=>?_⟩
  simp only[List.map_cons,List.map_nil,List.mem_singleton] at hb
  subst hb;subst e;exact h4 ha
theorem mD{α β:Type}{f:α→β}{l:List α}{n:Nat}{x y:α}(h:l[n]?=some x)(e:f y=f x):(l.set n y).map f=l.map f:=by
 rw[List.map_set,e]
 apply List.ext_getElem?
 intro i
 rw[List.getElem?_set]
 split
 ·rename_i hi;subst hi
  have:=(List.getElem?_eq_some_iff.1 h).1
  have h2:=(List.getElem?_eq_some_iff.1 h).2
  simp[this,h2]
 ·rfl
theorem sK{l:List Od}{n:Nat}{o o':Od}(h:aU l=true)(hn:l[n]?=some o)(h1:bn o'=true)(h2:o'.id=o.id):aU (l.set n o')=true:=by
 rw[jw] at h ⊢
 refine⟨by simpa using h.1,fun p hp=>?_,?_⟩
 ·rcases List.mem_or_eq_of_mem_set hp with hp|rfl
  ·exact h.2.1 p hp
  ·exact h1
 ·rw[mD (f:=(·.id)) hn h2];exact h.2.2
theorem tq{o:Od}{d:Int}{b:Bool}(h:bn o=true)(h1:0≤d)(h2:d≤o.al):bn ⟨o.id,o.acc,o.sym,o.au,o.al,o.aw,d,b⟩=true:=by
 simp only[bn,Bool.and_eq_true,decide_eq_true_eq] at h ⊢
 simp only[h,h1,h2,and_self]
theorem nh{l:List Od}{id:Bs}{n:Nat}(h:cF l id=some n):∃o,l[n]?=some o∧o.id=id∧o.bg=true∧l.getD n eH=o:=by
 unfold cF at h
 split at h
 ·rename_i k hk
  obtain⟨o,h1,h2,_⟩:=mJ hk
  rw[iK h1] at h
  split at h
  ·simp only[Option.some.injEq] at h;subst h
   exact⟨o,h1,h2,by assumption,iK h1⟩
  ·simp at h
 ·simp at h
theorem Dx{l:List Od}{o:Od}(h:(cD l o).2=0):aU (cD l o).1=true:=by
 unfold cD at h ⊢
 split at h<;>rename_i h1
 ·simp at h
 split at h<;>rename_i h2
 ·simp at h
 split at h<;>rename_i h3
 ·simp at h
 rw[if_neg h1,if_neg h2,if_neg h3]
 simp only[not_or,Bool.not_eq_false] at h1
 exact uF h1.1 h1.2 (by cases hp:bS l o.id with|none=>rfl|some n=>simp[hp] at h2) (by omega)
theorem Ge{l:List Od}{id:Bs}(h:(dj l id).2=0):aU (dj l id).1=true:=by
 unfold dj at h ⊢
 split at h
 ·simp at h
 ·rename_i h1
  simp only[Bool.not_eq_false] at h1
  rw[if_neg (by simp[h1])]
  split at h
  ·simp at h
  ·rename_i n hn
   obtain⟨o,h2,h3,h4,h5⟩:=nh hn
   simp only[hn,h5]
   have hm:=(jw.1 h1).2.1 o (List.mem_of_getElem? h2)
   have hd:0≤o.done∧o.done≤o.al:=by simp only[bn,Bool.and_eq_true,decide_eq_true_eq] at hm;omega
   exact sK h1 h2 (tq hm hd.1 hd.2) rfl
theorem Ft{l:List Od}{id:Bs}{q p:Int}(h:(cc l id q p).2=0):aU (cc l id q p).1=true:=by
 unfold cc at h ⊢
 split at h
 ·simp at h
 ·rename_i h1
  simp only[Bool.not_eq_false] at h1
  rw[if_neg (by simp[h1])]
  split at h
  ·simp at h
  ·rename_i n hn
   obtain⟨o,h2,h3,h4,h5⟩:=nh hn
   simp only[hn,h5] at h ⊢
   split at h<;>rename_i h6
   ·simp at h
   split at h<;>rename_i h7
   ·simp at h
   rw[if_neg h6,if_neg h7]
   have hm:=(jw.1 h1).2.1 o (List.mem_of_getElem? h2)
   simp only[not_or] at h6
   have hr:=Br (q:=q) hm (by omega) (by omega)
   have hl:db o≤o.al-o.done:=by unfold db;split<;>simp only[bn,Bool.and_eq_true,decide_eq_true_eq] at hm<;>omega
   exact sK h1 h2 (tq hm (by omega) (by omega)) rfl
theorem Ck{l:List Od}{a b:Bs}{q p:Int}(h:(ca l a b q p).2=0):aU (ca l a b q p).1=true:=by
 unfold ca at h ⊢
 split at h
 ·simp at h
 ·rename_i h1
  simp only[Bool.not_eq_false] at h1
  rw[if_neg (by simp[h1])]
  split at h
  ·simp at h
  ·rename_i n hn
   obtain⟨o,h2,h3,h4,h5⟩:=nh hn
   simp only[hn,h5] at h ⊢
   split at h<;>rename_i h6
   ·simp at h
   split at h<;>rename_i h7
   ·simp at h
   split at h<;>rename_i h8
   ·simp at h
   rw[if_neg h6,if_neg h7,if_neg h8]
   have hm:=(jw.1 h1).2.1 o (List.mem_of_getElem? h2)
   have hd:0≤o.done∧o.done≤o.al:=by simp only[bn,Bool.and_eq_true,decide_eq_true_eq] at hm;omega
   have hs:=sK (o':=⟨o.id,o.acc,o.sym,o.au,o.al,o.aw,o.done,false⟩) h1 h2 (tq hm hd.1 hd.2) rfl
   refine uF hs (by simpa using h6) ?_ (by simpa using h8)
   have h9:(bS l b).isNone=true:=by cases hp:bS l b with|none=>rfl|some n=>simp[hp] at h7
   rw[nx] at h9
   have h10:(bS (l.set n ⟨o.id,o.acc,o.sym,o.au,o.al,o.aw,o.done,false⟩) b).isNone=true:=by
    rw[nx,mD (f:=fun o:Od=>o.id) (y:=⟨o.id,o.acc,o.sym,o.au,o.al,o.aw,o.done,false⟩) h2 rfl];exact h9
   simpa using h10
end Go.Bk
namespace Go.Bk
theorem Vi{l:List Dn}{id:Bs}{n:Nat}(h:dF l id=some n):∃f,l[n]?=some f∧f.id=id∧l.getD n mg=f:=by
 unfold dF at h
 obtain⟨hn,h1,_⟩:=List.findIdx?_eq_some_iff_getElem.1 h
 have:=List.getElem?_eq_getElem hn
 exact⟨l[n],this,by simpa using h1,mA this⟩
theorem Tc{b:Bk}{x:Ex}(h:(bH b x).2≠0):(bH b x).1=b∧1≤(bH b x).2∧(bH b x).2≤6:=by
 revert h
 unfold bH
 cases dF b.ai x.ref with
 |none=>intro _;simp
 |some n=>
  simp only
  repeat' split
  all_goals simp
theorem HT{b:Bk}{x:Ex}(h:(dH b x).2≠0):(dH b x).1=b∧1≤(dH b x).2∧(dH b x).2≤6:=by
 unfold dH at h ⊢
 simp only at h ⊢
 repeat' split
 all_goals simp_all
theorem DU{b:Bk}{x:Ex}(h:(dN b x).2≠0):(dN b x).1=b∧1≤(dN b x).2∧(dN b x).2≤6:=by
 unfold dN at h ⊢
 simp only at h ⊢
 repeat' split
 all_goals simp_all
theorem u3{b:Bk}{x:Ex}(h:(bK b x).2≠0):(bK b x).1=b∧1≤(bK b x).2∧(bK b x).2≤6:=by
 by_cases h0:x.time<b.clock
 ·unfold bK;rw[if_pos h0];simp
 ·by_cases h1:x.kind=1
  ·unfold bK at h ⊢;rw[if_neg h0,if_pos h1] at h ⊢
   simp only at h ⊢
   split at h<;>simp_all
  ·by_cases h7:x.kind=7∨x.kind=8
   ·have e:bK b x=bH b x:=by unfold bK;rw[if_neg h0,if_neg h1,if_pos h7]
    rw[e] at h ⊢;exact Tc h
   ·unfold bK at h ⊢;rw[if_neg h0,if_neg h1,if_neg h7] at h ⊢
    simp only at h ⊢
    generalize findF b.af (if x.kind=4 then x.ref else x.ord)=o at h ⊢
    split at h<;>rename_i g1
    ·rw[if_pos g1];simp
    ·rw[if_neg g1]
     split at h<;>rename_i g2
     ·rw[if_pos g2];simp
     ·rw[if_neg g2]
      split at h<;>rename_i g3
      ·rw[if_pos g3];exact HT h
      ·rw[if_neg g3]
       split at h<;>rename_i g4
       ·rw[if_pos g4];exact DU h
       ·rw[if_neg g4]
        split at h<;>simp_all
inductive jB(b:Bk)(x:Ex):Bk→Prop
 |opens (hk:x.kind=1) (h:(cD b.af (fY x)).2=0):jB b x { b with af:=(cD b.af (fY x)).1 }
 |tr (hk:x.kind=7) (n:Nat) (f:Dn) (hn:b.ai[n]?=some f) (hid:f.id=x.ref) (hl:f.live=true) (ht:x.time-f.time≤10) (ho:f.ord=x.ord) (ha:f.acc=x.acc) (hs:f.sym=x.sym) (hb:f.au=x.au):jB b x { b with ai:=b.ai.set n { f with live:=false } }
 |vB (hk:x.kind=8) (n:Nat) (f:Dn) (hn:b.ai[n]?=some f) (hid:f.id=x.ref) (hl:f.live=true) (ht:x.time-f.time≤10) (ho:f.ord=x.ord) (ha:f.acc=x.acc) (hs:f.sym=x.sym) (hb:f.au=x.au) (hq:x.al≤f.al) (hf:(findF b.af f.ord).2=true) (hp:er { (findF b.af f.ord).1 with au:=f.au } x.aw=true):jB b x { b with ai:=b.ai.set n { f with al:=x.al,aw:=x.aw } }
 |ai (hk:x.kind=2) (h:(cc b.af x.ord x.al x.aw).2=0) (hf:(findF b.af x.ord).2=true) (ho:(findF b.af x.ord).1.bg=true) (ha:(findF b.af x.ord).1.acc=x.acc) (hs:(findF b.af x.ord).1.sym=x.sym) (hb:(findF b.af x.ord).1.au=x.au):jB b x { b with af:=(cc b.af x.ord x.al x.aw).1,ai:=b.ai++[iO x] }
 |changes (hk:x.kind=4) (h:(ca b.af x.ref x.ord x.al x.aw).2=0) (hf:(findF b.af x.ref).2=true) (ho:(findF b.af x.ref).1.bg=true) (ha:(findF b.af x.ref).1.acc=x.acc) (hs:(findF b.af x.ref).1.sym=x.sym) (hb:(findF b.af x.ref).1.au=x.au):jB b x { b with af:=(ca b.af x.ref x.ord x.al x.aw).1 }
 |r7 (hk:¬x.kind=1∧¬x.kind=2∧¬x.kind=4∧¬x.kind=7∧¬x.kind=8) (h:(dj b.af x.ord).2=0) (hf:(findF b.af x.ord).2=true) (ho:(findF b.af x.ord).1.bg=true) (ha:(findF b.af x.ord).1.acc=x.acc) (hs:(findF b.af x.ord).1.sym=x.sym) (hb:(findF b.af x.ord).1.au=x.au):jB b x { b with af:=(dj b.af x.ord).1 }
theorem sJ{b:Bk}{x:Ex}(h:(bK b x).2=0):b.clock≤x.time∧jB b x (bK b x).1:=by
 by_cases h0:x.time<b.clock
 ·unfold bK at h;rw[if_pos h0] at h;simp at h
 refine⟨by omega,?_⟩
 by_cases h1:x.kind=1
 ·unfold bK at h ⊢;rw[if_neg h0,if_pos h1] at h ⊢
  simp only at h ⊢
  split at h<;>rename_i g
  ·rw[if_pos g];exact .opens h1 g
  ·simp at h
 by_cases h7:x.kind=7∨x.kind=8
 ·have e:bK b x=bH b x:=by unfold bK;rw[if_neg h0,if_neg h1,if_pos h7]
  rw[e] at h ⊢
  unfold bH at h ⊢
  cases hn:dF b.ai x.ref with
  |none=>rw[hn] at h;simp at h
  |some n=>
   rw[hn] at h
   obtain⟨f,g1,g2,g3⟩:=Vi hn
   simp only[g3] at h ⊢
   split at h<;>rename_i k1
   ·simp at h
   split at h<;>rename_i k2
   ·simp at h
   simp only[not_or,Bool.not_eq_false,Int.not_lt,ne_eq,Decidable.not_not] at k1 k2
   split at h<;>rename_i k3
   ·rw[if_neg (by simp[k1]),if_neg (by simp[k2]),if_pos k3]
    exact .tr k3 n f g1 g2 k1.1 k1.2 k2.1 k2.2.1 k2.2.2.1 k2.2.2.2
   ·split at h<;>rename_i k4
    ·simp at h
    split at h<;>rename_i k5
    ·simp at h
    rw[if_neg (by simp[k1]),if_neg (by simp[k2]),if_neg k3,if_neg k4,if_neg k5]
    simp only[not_or,Bool.not_eq_false] at k5
    exact .vB (by omega) n f g1 g2 k1.1 k1.2 k2.1 k2.2.1 k2.2.2.1 k2.2.2.2 (by omega) k5.1 k5.2
 ·unfold bK at h ⊢;rw[if_neg h0,if_neg h1,if_neg h7] at h ⊢
  simp only at h ⊢
  generalize hid:(if x.kind=4 then x.ref else x.ord)=id at h ⊢
  split at h<;>rename_i g1
  ·simp at h
  split at h<;>rename_i g2
  ·simp at h
  rw[if_neg g1,if_neg g2]
  simp only[not_or,Bool.not_eq_false,ne_eq,Decidable.not_not] at g1 g2
  split at h<;>rename_i g3
  ·rw[if_pos g3]
   rw[if_neg (by omega)] at hid
   subst hid
   unfold dH at h ⊢
   simp only at h ⊢
   split at h<;>rename_i g5
   ·rw[if_pos g5];exact .ai g3 g5 g1.1 g1.2 g2.1 g2.2.1 g2.2.2
   ·(repeat' split at h)<;>simp at h
  ·rw[if_neg g3]
   split at h<;>rename_i g4
   ·rw[if_pos g4]
    rw[if_pos g4] at hid
    subst hid
    unfold dN at h ⊢
    simp only at h ⊢
    split at h<;>rename_i g5
    ·rw[if_pos g5];exact .changes g4 g5 g1.1 g1.2 g2.1 g2.2.1 g2.2.2
    ·(repeat' split at h)<;>simp at h
   ·rw[if_neg g4]
    rw[if_neg g4] at hid
    subst hid
    split at h<;>rename_i g5
    ·rw[if_pos g5];exact .r7 ⟨h1,g3,g4,fun e=>h7 (.inl e),fun e=>h7 (.inr e)⟩ g5 g1.1 g1.2 g2.1 g2.2.1 g2.2.2
    ·simp at h
end Go.Bk
namespace Go.Bk
theorem ub{b c:Bk}{f:Dn}(h:cd b f=true)(h1:b.clock≤c.clock)(h2:∀s∈b.ids,s∈c.ids):cd c f=true:=by
 simp only[cd,Bool.and_eq_true,decide_eq_true_eq] at h ⊢
 exact⟨⟨⟨⟨h.1.1.1.1,h.1.1.1.2⟩,h.1.1.2⟩,by omega⟩,h2 _ h.2⟩
theorem Xm{b:Bk}{f g:Dn}(h:cd b f=true)(hid:g.id=f.id)(ht:g.time=f.time)(hq:bJ g.al=true)(hp:bJ g.aw=true):cd b g=true:=by
 simp only[cd,Bool.and_eq_true,decide_eq_true_eq] at h ⊢
 rw[hid,ht]
 exact⟨⟨⟨⟨hq,hp⟩,h.1.1.2⟩,h.1.2⟩,h.2⟩
theorem BX{x:Ex}(h:dh x=true):bJ x.al=true∧bJ x.aw=true∧0≤x.time∧x.time≤4611686018427387904:=by
 simp only[dh,lv,Bool.and_eq_true,decide_eq_true_eq] at h
 exact⟨h.1.1.2,h.1.2,h.2⟩
theorem eO{b:Bk}:aQ b=true↔(aU b.af=true∧b.ai.length≤256∧b.ids.length≤256∧0≤b.clock∧b.clock≤4611686018427387904∧0≤b.bad∧b.bad≤6)∧b.ids.Nodup∧(∀f∈b.ai,cd b f=true)∧(b.ai.map (·.id)).Nodup:=by
 simp only[aQ,fC,Bool.and_eq_true,decide_eq_true_eq,List.all_eq_true]
 constructor
 ·rintro⟨⟨⟨h1,h2⟩,h3⟩,h4⟩;exact⟨⟨h1.1.1.1.1.1.1,h1.1.1.1.1.1.2,h1.1.1.1.1.2,h1.1.1.1.2,h1.1.1.2,h1.1.2,h1.2⟩,h2,h3,h4⟩
 ·rintro⟨⟨a,b,c,d,e,f,g⟩,h2,h3,h4⟩;exact⟨⟨⟨⟨⟨⟨⟨⟨⟨a,b⟩,c⟩,d⟩,e⟩,f⟩,g⟩,h2⟩,h3⟩,h4⟩
theorem zJ{α:Type}[DecidableEq α]:∀{l m:List α},l.Nodup→(∀x∈l,x∈m)→l.length≤m.length
 |[],m,_,_=>Nat.zero_le _
 |x::l,m,h,hs=>by
  rw[List.nodup_cons] at h
  have hx:=hs x (List.mem_cons_self ..)
  have ih:=zJ (m:=m.erase x) h.2 fun y hy=>(List.mem_erase_of_ne (fun e=>h.1 (by rw[←e];exact hy))).2 (hs y (List.mem_cons_of_mem _ hy))
  rw[List.length_erase_of_mem hx] at ih
  have:=List.length_pos_of_mem hx
  simp only[List.length_cons];omega
theorem VV{l:List Dn}{ids:List Bs}(h:(l.map (·.id)).Nodup)(hs:∀f∈l,f.id∈ids):l.length≤ids.length:=by
 have:=zJ (m:=ids) h fun a ha=>by
  obtain⟨f,hf,rfl⟩:=List.mem_map.1 ha
  exact hs f hf
 simpa using this
theorem KQ{b:Bk}{x:Ex}(h:aQ b=true)(hx:dh x=true):aQ (bM b x).1=true:=by
 unfold bM
 split
 ·exact h
 rename_i h0
 split
 ·exact h
 rename_i h1
 simp only[not_or,Decidable.not_not,ne_eq] at h0
 have h1':x.id∉b.ids:=fun hm=>h1 (nL.2 hm)
 obtain⟨⟨a1,a2,a3,a4,a5,a6,a7⟩,h2,h3,h4⟩:=eO.1 h
 have hn:(b.ids++[x.id]).Nodup:=by
  rw[List.nodup_append]
  refine⟨h2,by simp,fun a ha c hc e=>?_⟩
  simp only[List.mem_singleton] at hc
  subst hc;subst e;exact h1' ha
 have hlen:(b.ids++[x.id]).length≤256:=by simp;omega
 have hsub:∀s∈b.ids,s∈b.ids++[x.id]:=fun s hs=>List.mem_append_left _ hs
 simp only
 split
 ·rename_i hw
  have⟨e1,e2,e3⟩:=u3 hw
  rw[e1]
  exact eO.2 ⟨⟨a1,a2,hlen,a4,a5,Int.le_trans (by decide) e2,e3⟩,hn,fun f hf=>ub (h3 f hf) (Int.le_refl _) hsub,h4⟩
 ·rename_i hw
  simp only[Decidable.not_not,ne_eq] at hw
  have⟨hc,hd⟩:=sJ hw
  have hx2:=BX hx
  have hc':b.clock≤x.time:=hc
  generalize (bK { b with ids:=b.ids++[x.id] } x).1=c at hd
  have old:∀f∈b.ai,cd ⟨b.af,b.ai,b.ids++[x.id],x.time,b.bad⟩ f=true:=fun f hf=>ub (h3 f hf) hc' hsub
  have side:∀(os:List Od) (fs:List Dn),aU os=true→(∀f∈fs,cd ⟨b.af,b.ai,b.ids++[x.id],x.time,b.bad⟩ f=true)→(fs.map (·.id)).Nodup→aQ ⟨os,fs,b.ids++[x.id],x.time,b.bad⟩=true:=by
   intro os fs g1 g2 g3
   have g4:fs.length≤(b.ids++[x.id]).length:=VV g3 fun f hf=>by
    have:=g2 f hf
    simp only[cd,Bool.and_eq_true,decide_eq_true_eq] at this
    exact this.2
   exact eO.2 ⟨⟨g1,Nat.le_trans g4 hlen,hlen,by show 0≤x.time;omega,hx2.2.2.2,a6,a7⟩,hn,g2,g3⟩
  cases hd with
  |opens hk h=>exact side _ _ (Dx h) old h4
  |tr hk n f hn hid hl ht ho ha hs hb=>
   have hf:=old f (List.mem_of_getElem? hn)
   refine side _ _ a1 (fun g hg=>?_) (by rw[mD (f:=fun f:Dn=>f.id) hn];exact h4;rfl)
   rcases List.mem_or_eq_of_mem_set hg with hg|rfl
   ·exact old g hg
   ·simp only[cd,Bool.and_eq_true] at hf ⊢;exact hf
  |vB hk n f hn hid hl ht ho ha hs hb hq hf hp=>
   have hf:=old f (List.mem_of_getElem? hn)
   refine side _ _ a1 (fun g hg=>?_) (by rw[mD (f:=fun f:Dn=>f.id) hn];exact h4;rfl)
   rcases List.mem_or_eq_of_mem_set hg with hg|rfl
   ·exact old g hg
   ·exact Xm hf rfl rfl hx2.1 hx2.2.1
  |ai hk h hf ho ha hs hb=>
   refine side _ _ (Ft h) (fun g hg=>?_) ?_
   ·rcases List.mem_append.1 hg with hg|hg
    ·exact old g hg
    ·rw[List.mem_singleton.1 hg]
     simp[cd,iO,hx2.1,hx2.2.1,hx2.2.2.1]
   ·rw[List.map_append,List.nodup_append]
    refine⟨h4,by simp,fun a ha c hc e=>?_⟩
    simp only[List.map_cons,List.map_nil,iO,List.mem_singleton] at hc
    subst hc;subst e
    obtain⟨f,hf,e⟩:=List.mem_map.1 ha
    have:=h3 f hf
    simp only[cd,Bool.and_eq_true,decide_eq_true_eq] at this
    exact h1' (e ▸ this.2)
  |changes hk h hf ho ha hs hb=>exact side _ _ (Ck h) old h4
  |r7 hk h hf ho ha hs hb=>exact side _ _ (Ge h) old h4
theorem ui{b:Bk}{x:Ex}(h:aQ b=true):aQ (aY b x).1=true:=by
 unfold aY
 split
 ·rename_i hx;simp only[Bool.and_eq_true] at hx;exact KQ h hx.2
 ·exact h
end Go.Bk
namespace Go.Bk
theorem H4{b c:Bk}{x:Ex}(h:jB b x c):c.ids=b.ids∧c.clock=b.clock∧c.bad=b.bad:=by cases h<;>exact⟨rfl,rfl,rfl⟩
theorem BK{b:Bk}{x:Ex}(hb:b.bad=0)(hl:b.ids.length<256)(hx:x.id∉b.ids):
 (∃e,bM b x=(⟨b.af,b.ai,b.ids++[x.id],b.clock,e⟩,3)∧1≤e∧e≤6)∨
 (∃c,bM b x=(⟨c.af,c.ai,b.ids++[x.id],x.time,0⟩,1)∧b.clock≤x.time∧jB ⟨b.af,b.ai,b.ids++[x.id],b.clock,b.bad⟩ x c):=by
 unfold bM
 rw[if_neg (by omega),if_neg (by rw[nL];exact hx)]
 simp only
 by_cases h:(bK ⟨b.af,b.ai,b.ids++[x.id],b.clock,b.bad⟩ x).2=0
 ·right
  have⟨h1,h2⟩:=sJ h
  have⟨h3,h4,h5⟩:=H4 h2
  refine⟨_,?_,h1,h2⟩
  rw[if_neg (by simpa using h)]
  rw[h3,h5,hb]
 ·left
  have⟨h1,h2,h3⟩:=u3 h
  refine⟨_,?_,h2,h3⟩
  rw[if_pos h,h1]
end Go.Bk
namespace Go.Bk
theorem gP{α:Type}{p:α×Int}{l:α}{k:Int}(h:p.2=k)(hk:p.2≠0→p.1=l)(h0:k≠0):p=(l,k):=by
 have:=hk (by rw[h];exact h0)
 cases p;simp_all
theorem rP{l:List Od}{o:Od}(h:(cD l o).2≠0):(cD l o).1=l:=by
 revert h;unfold cD;repeat' split
 all_goals simp
theorem nj{l:List Od}{id:Bs}{q p:Int}(h:(cc l id q p).2≠0):(cc l id q p).1=l:=by
 revert h;unfold cc;repeat' split
 all_goals(try simp)
 all_goals(repeat' split)
 all_goals simp
theorem pC{l:List Od}{a b:Bs}{q p:Int}(h:(ca l a b q p).2≠0):(ca l a b q p).1=l:=by
 revert h;unfold ca;repeat' split
 all_goals(try simp)
 all_goals(repeat' split)
 all_goals simp
theorem lk{l:List Od}{id:Bs}(h:¬bN l id<0):∃n o,bN l id=(n:Nat)∧bS l id=some n∧l[n]?=some o∧n<l.length:=by
 rcases iQ l id with⟨e,_⟩|⟨n,o,e,e2,e3⟩
 ·omega
 ·exact⟨n,o,e,e2,e3,bI e3⟩
theorem ll{l:List Od}{id:Bs}{n:Nat}{o:Od}(h:bS l id=some n)(h2:l[n]?=some o):cF l id=if o.bg then some n else none:=by
 unfold cF;rw[h];simp only[iK h2]
theorem qn{l:List Od}{id:Bs}(h:bN l id<0):cF l id=none:=by
 rcases iQ l id with⟨_,e⟩|⟨n,o,e,_,_⟩
 ·unfold cF;rw[e]
 ·omega
end Go.Bk
namespace Go.Bk
end Go.Bk
namespace Go.Bk
theorem sN{b:Bk}{x:Ex}(hr:aQ b=true)(h:(aY b x).2=1):dh x=true∧b.bad=0∧x.id∉b.ids∧
 ∃c,aY b x=(⟨c.af,c.ai,b.ids++[x.id],x.time,0⟩,1)∧b.clock≤x.time∧jB ⟨b.af,b.ai,b.ids++[x.id],b.clock,b.bad⟩ x c:=by
 cases hx:dh x with
 |false=>unfold aY at h;rw[hx] at h;simp at h
 |true=>
  have e:aY b x=bM b x:=by unfold aY;simp[hr,hx]
  rw[e] at h ⊢
  by_cases h1:b.bad≠0∨256≤b.ids.length
  ·unfold bM at h;rw[if_pos h1] at h;simp at h
  ·simp only[not_or,ne_eq,Decidable.not_not] at h1
   by_cases hm:x.id∈b.ids
   ·unfold bM at h;rw[if_neg (by omega),if_pos (nL.2 hm)] at h;simp at h
   ·rcases BK h1.1 (by omega) hm with⟨e',h4,_⟩|⟨c,h4,h5,h6⟩
    ·rw[h4] at h;simp at h
    ·exact⟨rfl,h1.1,hm,c,h4,h5,h6⟩
theorem xG{l:List Bs}{i:Nat}{x:Bs}(h:l[i]?=some x):eM l x=i↔x∉l.take i:=by
 rw[uy,uB h (by simp)]
 constructor
 ·intro h1 h2;simpa using h1 x h2
 ·intro h1 y hy;simp;rintro rfl;exact h1 hy
theorem yy{l:List Dn}{i:Nat}{f:Dn}(h:l[i]?=some f):fv l f.id=i↔f.id∉(l.take i).map (·.id):=by
 rw[Cc,uB h (by simp)]
 constructor
 ·intro h1 h2
  obtain⟨g,hg,e⟩:=List.mem_map.1 h2
  have:=h1 g hg
  simp[e] at this
 ·intro h1 y hy;simp;intro e;exact h1 (List.mem_map.2 ⟨y,hy,e⟩)
theorem Au{α:Type}{l:List α}{x:α}(h:l.Nodup)(hx:x∉l):(l++[x]).Nodup:=by
 rw[List.nodup_append]
 exact⟨h,by simp,fun a ha b hb=>by rw[List.mem_singleton.1 hb];rintro rfl;exact hx ha⟩
theorem Dz{l:List Bs}{i:Nat}{x:Bs}(h:l[i]?=some x)(hn:(l.take i).Nodup)(hi:eM l x=i):(l.take (i+1)).Nodup:=by
 rw[cp h];exact Au hn ((xG h).1 hi)
theorem Gl{l:List Bs}{i:Nat}{x:Bs}(h:l[i]?=some x)(hi:¬eM l x=i):¬l.Nodup:=by
 intro hn
 rw[xG h,Classical.not_not] at hi
 obtain⟨hl,e⟩:=List.getElem?_eq_some_iff.1 h
 rw[←List.take_append_drop i l,List.nodup_append] at hn
 refine hn.2.2 x hi x ?_ rfl
 rw[drop_cons h];simp
theorem XJ{l:List Dn}{i:Nat}{f:Dn}(h:l[i]?=some f)(hn:((l.take i).map (·.id)).Nodup)(hi:fv l f.id=i):((l.take (i+1)).map (·.id)).Nodup:=by
 rw[cp h,List.map_append];exact Au hn ((yy h).1 hi)
theorem GN{l:List Dn}{i:Nat}{f:Dn}(h:l[i]?=some f)(hi:¬fv l f.id=i):¬(l.map (·.id)).Nodup:=by
 intro hn
 rw[yy h,Classical.not_not] at hi
 rw[←List.take_append_drop i l,List.map_append,List.nodup_append] at hn
 refine hn.2.2 _ hi _ ?_ rfl
 rw[drop_cons h];simp
theorem v7{l:List Bs}{x:Bs}:eM l x<0↔x∉l:=by
 rw[uy,Uf]
 constructor
 ·intro h hx;simpa using h x hx
 ·intro h y hy;simp;rintro rfl;exact h hy
theorem XN{b:Bk}(h:fC b=false):aQ b=false:=by simp[aQ,h]
theorem No{b:Bk}(h:¬b.ids.Nodup):aQ b=false:=by simp[aQ,h]
theorem pe{b:Bk}{i:Nat}{f:Dn}(hb:b.ai[i]?=some f)(h:cd b f=false):aQ b=false:=by
 have:b.ai.all (cd b)=false:=by
  rw[List.all_eq_false];exact⟨f,List.mem_of_getElem? hb,by simp[h]⟩
 unfold aQ;rw[this];simp
theorem RN{b:Bk}(h:¬(b.ai.map (·.id)).Nodup):aQ b=false:=by simp[aQ,h]
theorem L9{b:Bk}(h1:fC b=true)(h2:b.ids.Nodup)(h3:b.ai.all (cd b)=true)(h4:(b.ai.map (·.id)).Nodup):aQ b=true:=by
 unfold aQ;rw[h1,h3];simp[h2,h4]
theorem Cr(b:Bk)(x:Ex)(c:Int):bH { b with clock:=c } x=({ (bH b x).1 with clock:=c },(bH b x).2):=by
 unfold bH
 dsimp only
 split
 ·rfl
 ·repeat' split
  all_goals rfl
def kt(e:Int):Int:=if e=1 then 4 else if e=9 then 5 else 2
def du(b:Bk)(x:Ex):Bk×Int:=
 if x.time<b.clock then(b,1)
 else if x.kind=1 then(if(cD b.af (fY x)).2=0 then(⟨(cD b.af (fY x)).1,b.ai,b.ids,x.time,b.bad⟩,0) else(⟨b.af,b.ai,b.ids,x.time,b.bad⟩,2))
 else if 6<x.kind then bH ⟨b.af,b.ai,b.ids,x.time,b.bad⟩ x
 else match cF b.af (if x.kind=4 then x.ref else x.ord) with
 |none=>(⟨b.af,b.ai,b.ids,x.time,b.bad⟩,2)
 |some n=>
  if(b.af.getD n eH).acc≠x.acc∨(b.af.getD n eH).sym≠x.sym∨(b.af.getD n eH).au≠x.au then(⟨b.af,b.ai,b.ids,x.time,b.bad⟩,3)
  else if x.kind=2 then(if(cc b.af x.ord x.al x.aw).2=0 then(⟨(cc b.af x.ord x.al x.aw).1,b.ai++[iO x],b.ids,x.time,b.bad⟩,0) else(⟨b.af,b.ai++[iO x],b.ids,x.time,b.bad⟩,kt (cc b.af x.ord x.al x.aw).2))
  else if x.kind=4 then(if(ca b.af x.ref x.ord x.al x.aw).2=0 then(⟨(ca b.af x.ref x.ord x.al x.aw).1,b.ai,b.ids,x.time,b.bad⟩,0) else(⟨b.af,b.ai,b.ids,x.time,b.bad⟩,kt (ca b.af x.ref x.ord x.al x.aw).2))
  else(if(dj b.af x.ord).2=0 then(⟨(dj b.af x.ord).1,b.ai,b.ids,x.time,b.bad⟩,0) else(⟨b.af,b.ai,b.ids,x.time,b.bad⟩,kt (dj b.af x.ord).2))
theorem yk{l:List Od}{id:Bs}(h:aU l=true):((findF l id).2=false∨(findF l id).1.bg=false)↔cF l id=none:=by
 unfold findF cF
 rw[if_pos h]
 cases bS l id with
 |none=>simp
 |some n=>simp only[];cases (l.getD n eH).bg<;>simp
theorem RE{l:List Od}{id:Bs}{n:Nat}(h:aU l=true)(h2:cF l id=some n):(findF l id).1=l.getD n eH:=by
 unfold cF at h2
 unfold findF
 rw[if_pos h]
 cases hp:bS l id with
 |none=>rw[hp] at h2;simp at h2
 |some k=>
  rw[hp] at h2;simp only[] at h2
  split at h2
  ·simp only[Option.some.injEq] at h2;subst h2;rfl
  ·simp at h2
theorem GW{l:List Od}{a b:Bs}{q p:Int}:(ca l a b q p).2≠9:=by
 unfold ca
 repeat' split
 all_goals simp
 all_goals(repeat' split)
 all_goals simp
theorem B8{b:Bk}{x:Ex}(hr:aU b.af=true)(hk:1≤x.kind∧x.kind≤8):(du b x).2=(bK b x).2∧((bK b x).2=0→(du b x).1={ (bK b x).1 with clock:=x.time }):=by
 unfold du bK
 by_cases h1:x.time<b.clock
 ·rw[if_pos h1,if_pos h1];exact⟨rfl,fun h=>absurd h (by simp)⟩
 rw[if_neg h1,if_neg h1]
 by_cases h2:x.kind=1
 ·rw[if_pos h2,if_pos h2]
  simp only[]
  split
  ·exact⟨rfl,fun _=>rfl⟩
  ·exact⟨rfl,fun h=>absurd h (by simp)⟩
 rw[if_neg h2,if_neg h2]
 by_cases h3:6<x.kind
 ·rw[if_pos h3,if_pos (show x.kind=7∨x.kind=8 by omega)]
  rw[show(⟨b.af,b.ai,b.ids,x.time,b.bad⟩:Bk)={ b with clock:=x.time } from rfl,Cr];exact⟨rfl,fun _=>rfl⟩
 rw[if_neg h3,if_neg (show ¬(x.kind=7∨x.kind=8) by omega)]
 simp only[]
 cases ho:cF b.af (if x.kind=4 then x.ref else x.ord) with
 |none=>
  rw[if_pos ((yk hr).2 ho)];exact⟨rfl,fun h=>absurd h (by simp)⟩
 |some n=>
  have hfo:¬((findF b.af (if x.kind=4 then x.ref else x.ord)).2=false∨(findF b.af (if x.kind=4 then x.ref else x.ord)).1.bg=false):=fun h=>by rw[(yk hr).1 h] at ho;simp at ho
  simp only[]
  rw[if_neg hfo,RE hr ho]
  by_cases h4:(b.af.getD n eH).acc≠x.acc∨(b.af.getD n eH).sym≠x.sym∨(b.af.getD n eH).au≠x.au
  ·rw[if_pos h4,if_pos h4];exact⟨rfl,fun h=>absurd h (by simp)⟩
  rw[if_neg h4,if_neg h4]
  by_cases h5:x.kind=2
  ·rw[if_pos h5,if_pos h5]
   unfold dH
   simp only[]
   split
   ·exact⟨rfl,fun _=>rfl⟩
   ·unfold kt
    split
    ·exact⟨rfl,fun h=>absurd h (by simp)⟩
    ·split
     ·exact⟨rfl,fun h=>absurd h (by simp)⟩
     ·exact⟨rfl,fun h=>absurd h (by simp)⟩
  rw[if_neg h5,if_neg h5]
  by_cases h6:x.kind=4
  ·rw[if_pos h6,if_pos h6]
   unfold dN
   simp only[]
   split
   ·exact⟨rfl,fun _=>rfl⟩
   ·unfold kt
    split
    ·exact⟨rfl,fun h=>absurd h (by simp)⟩
    ·rw[if_neg GW];exact⟨rfl,fun h=>absurd h (by simp)⟩
  rw[if_neg h6,if_neg h6]
  rw[if_neg h6] at ho
  have hc:(dj b.af x.ord).2=0:=by unfold dj;simp[hr,ho]
  rw[if_pos hc,if_pos hc];exact⟨rfl,fun _=>rfl⟩
theorem Qu{x:Ex}(h:dh x=true):1≤x.kind∧x.kind≤8:=by
 apply Classical.byContradiction
 intro hn
 unfold dh at h
 rw[if_neg (by omega),if_neg (by omega)] at h
 simp at h
theorem r5{l:List Bs}{id:Bs}:kF l id=decide (0≤eM l id):=rfl
theorem zm{b:Bk}{x:Ex}(h:b.bad≠0∨256≤b.ids.length):bM b x=(b,4):=by unfold bM;rw[if_pos h]
theorem NL{b:Bk}{x:Ex}(h:¬(b.bad≠0∨256≤b.ids.length))(h2:0≤eM b.ids x.id):bM b x=(b,2):=by unfold bM;rw[if_neg h,r5,if_pos (by simpa using h2)]
theorem MI{b:Bk}{x:Ex}(hr:aU b.af=true)(hk:1≤x.kind∧x.kind≤8)(h:¬(b.bad≠0∨256≤b.ids.length))(h2:¬0≤eM b.ids x.id)(h3:¬(du ⟨b.af,b.ai,b.ids++[x.id],b.clock,b.bad⟩ x).2=0):
 bM b x=(⟨b.af,b.ai,b.ids++[x.id],b.clock,(du ⟨b.af,b.ai,b.ids++[x.id],b.clock,b.bad⟩ x).2⟩,3):=by
 have hs:=B8 (b:=⟨b.af,b.ai,b.ids++[x.id],b.clock,b.bad⟩) (x:=x) hr hk
 rw[hs.1] at h3 ⊢
 have hw:=u3 (b:=⟨b.af,b.ai,b.ids++[x.id],b.clock,b.bad⟩) (x:=x) h3
 unfold bM;rw[if_neg h,r5,if_neg (by simpa using h2)]
 simp only[]
 rw[if_pos h3,hw.1]
theorem EV{b:Bk}{x:Ex}(hr:aU b.af=true)(hk:1≤x.kind∧x.kind≤8)(h:¬(b.bad≠0∨256≤b.ids.length))(h2:¬0≤eM b.ids x.id)(h3:(du ⟨b.af,b.ai,b.ids++[x.id],b.clock,b.bad⟩ x).2=0):
 bM b x=((du ⟨b.af,b.ai,b.ids++[x.id],b.clock,b.bad⟩ x).1,1):=by
 have hs:=B8 (b:=⟨b.af,b.ai,b.ids++[x.id],b.clock,b.bad⟩) (x:=x) hr hk
 rw[hs.1] at h3
 rw[hs.2 h3]
 unfold bM;rw[if_neg h,r5,if_neg (by simpa using h2)]
 simp only[]
 rw[if_neg (by simpa using h3)]
end Go.Bk
namespace Go.Bk
theorem Gh{l:List Dn}{id:Bs}(h:¬fv l id<0):∃n f,fv l id=(n:Nat)∧dF l id=some n∧l[n]?=some f∧n<l.length:=by
 rcases uN l id with⟨e,_⟩|⟨n,o,e,e2,e3⟩
 ·omega
 ·exact⟨n,o,e,e2,e3,bI e3⟩
theorem I7{l:List Dn}{id:Bs}(h:fv l id<0):dF l id=none:=by
 rcases uN l id with⟨_,e⟩|⟨n,o,e,_,_⟩
 ·exact e
 ·omega
theorem JR{b:Bk}{x:Ex}(h:fv b.ai x.ref<0):bH b x=(b,6):=by unfold bH;rw[I7 h]
section
variable{b:Bk}{x:Ex}{n:Nat}{f:Dn}
theorem mn(h:dF b.ai x.ref=some n)(h2:b.ai[n]?=some f):bH b x =
 if f.live=false∨10<x.time-f.time then(b,6)
 else if f.ord≠x.ord∨f.acc≠x.acc∨f.sym≠x.sym∨f.au≠x.au then(b,3)
 else if x.kind=7 then(⟨b.af,b.ai.set n ⟨f.id,f.ord,f.acc,f.sym,f.au,f.al,f.aw,f.time,false⟩,b.ids,b.clock,b.bad⟩,0)
 else if f.al<x.al then(b,4)
 else if(findF b.af f.ord).2=false∨er { (findF b.af f.ord).1 with au:=f.au } x.aw=false then(b,5)
 else(⟨b.af,b.ai.set n ⟨f.id,f.ord,f.acc,f.sym,f.au,x.al,x.aw,f.time,f.live⟩,b.ids,b.clock,b.bad⟩,0):=by
 unfold bH;rw[h];simp only[mA h2]
variable(h:dF b.ai x.ref=some n)(h2:b.ai[n]?=some f)
include h h2
theorem xX(h3:f.live=false∨10<x.time-f.time):bH b x=(b,6):=by rw[mn h h2,if_pos h3]
theorem J3(h3:¬(f.live=false∨10<x.time-f.time))(h4:f.ord≠x.ord∨f.acc≠x.acc∨f.sym≠x.sym∨f.au≠x.au):bH b x=(b,3):=by rw[mn h h2,if_neg h3,if_pos h4]
theorem S7(h3:¬(f.live=false∨10<x.time-f.time))(h4:¬(f.ord≠x.ord∨f.acc≠x.acc∨f.sym≠x.sym∨f.au≠x.au))(h5:x.kind=7):bH b x=(⟨b.af,b.ai.set n ⟨f.id,f.ord,f.acc,f.sym,f.au,f.al,f.aw,f.time,false⟩,b.ids,b.clock,b.bad⟩,0):=by rw[mn h h2,if_neg h3,if_neg h4,if_pos h5]
theorem ER(h3:¬(f.live=false∨10<x.time-f.time))(h4:¬(f.ord≠x.ord∨f.acc≠x.acc∨f.sym≠x.sym∨f.au≠x.au))(h5:¬x.kind=7)(h6:f.al<x.al):bH b x=(b,4):=by rw[mn h h2,if_neg h3,if_neg h4,if_neg h5,if_pos h6]
theorem LK(hr:aU b.af=true)(h3:¬(f.live=false∨10<x.time-f.time))(h4:¬(f.ord≠x.ord∨f.acc≠x.acc∨f.sym≠x.sym∨f.au≠x.au))(h5:¬x.kind=7)(h6:¬f.al<x.al)(h7:bN b.af f.ord<0):bH b x=(b,5):=by
 rw[mn h h2,if_neg h3,if_neg h4,if_neg h5,if_neg h6,if_pos (.inl (by rw[BI hr h7]))]
theorem AH{m:Nat}{o:Od}(hr:aU b.af=true)(h3:¬(f.live=false∨10<x.time-f.time))(h4:¬(f.ord≠x.ord∨f.acc≠x.acc∨f.sym≠x.sym∨f.au≠x.au))(h5:¬x.kind=7)(h6:¬f.al<x.al)(h7:bN b.af f.ord=m)(h8:b.af[m]?=some o)
 (h9:f.au=true∧o.aw<x.aw∨f.au=false∧x.aw<o.aw):bH b x=(b,5):=by
 rw[mn h h2,if_neg h3,if_neg h4,if_neg h5,if_neg h6,if_pos (.inr (by
  rw[sf hr h7 h8];rcases h9 with⟨e,h9⟩|⟨e,h9⟩<;>simp[er,e]<;>omega))]
theorem AI{m:Nat}{o:Od}(hr:aU b.af=true)(hs:bJ x.aw=true)(h3:¬(f.live=false∨10<x.time-f.time))(h4:¬(f.ord≠x.ord∨f.acc≠x.acc∨f.sym≠x.sym∨f.au≠x.au))(h5:¬x.kind=7)(h6:¬f.al<x.al)(h7:bN b.af f.ord=m)(h8:b.af[m]?=some o)
 (h9:f.au=true∧¬o.aw<x.aw∨f.au=false∧¬x.aw<o.aw):bH b x=(⟨b.af,b.ai.set n ⟨f.id,f.ord,f.acc,f.sym,f.au,x.al,x.aw,f.time,f.live⟩,b.ids,b.clock,b.bad⟩,0):=by
 rw[mn h h2,if_neg h3,if_neg h4,if_neg h5,if_neg h6,if_neg (by
  rw[sf hr h7 h8];rcases h9 with⟨e,h9⟩|⟨e,h9⟩<;>simp[er,e,hs]<;>omega)]
end
section
variable{b:Bk}{x:Ex}
theorem SO(h:x.time<b.clock):du b x=(b,1):=by unfold du;rw[if_pos h]
variable(h:¬x.time<b.clock)
include h
theorem RF(h1:x.kind=1)(h2:(cD b.af (fY x)).2=0):du b x=(⟨(cD b.af (fY x)).1,b.ai,b.ids,x.time,b.bad⟩,0):=by unfold du;rw[if_neg h,if_pos h1,if_pos h2]
theorem Ti(h1:x.kind=1)(h2:¬(cD b.af (fY x)).2=0):du b x=(⟨b.af,b.ai,b.ids,x.time,b.bad⟩,2):=by unfold du;rw[if_neg h,if_pos h1,if_neg h2]
variable(h1:¬x.kind=1)
include h1
theorem MP(h2:6<x.kind):du b x=bH ⟨b.af,b.ai,b.ids,x.time,b.bad⟩ x:=by unfold du;rw[if_neg h,if_neg h1,if_pos h2]
variable(h2:¬6<x.kind){id:Bs}(hid:(if x.kind=4 then x.ref else x.ord)=id)
include h2 hid
theorem pZ(h3:cF b.af id=none):du b x=(⟨b.af,b.ai,b.ids,x.time,b.bad⟩,2):=by unfold du;rw[if_neg h,if_neg h1,if_neg h2,hid,h3]
variable{n:Nat}{o:Od}(h3:cF b.af id=some n)(h4:b.af[n]?=some o)
include h3 h4
theorem vP(h5:o.acc≠x.acc∨o.sym≠x.sym∨o.au≠x.au):du b x=(⟨b.af,b.ai,b.ids,x.time,b.bad⟩,3):=by unfold du;rw[if_neg h,if_neg h1,if_neg h2,hid,h3];simp only[iK h4];rw[if_pos h5]
variable(h5:¬(o.acc≠x.acc∨o.sym≠x.sym∨o.au≠x.au))
include h5
theorem UW(h6:x.kind=2)(h7:(cc b.af x.ord x.al x.aw).2=0):du b x=(⟨(cc b.af x.ord x.al x.aw).1,b.ai++[iO x],b.ids,x.time,b.bad⟩,0):=by
 unfold du;rw[if_neg h,if_neg h1,if_neg h2,hid,h3];simp only[iK h4];rw[if_neg h5,if_pos h6,if_pos h7]
theorem DG(h6:x.kind=2)(h7:¬(cc b.af x.ord x.al x.aw).2=0):du b x=(⟨b.af,b.ai++[iO x],b.ids,x.time,b.bad⟩,kt (cc b.af x.ord x.al x.aw).2):=by
 unfold du;rw[if_neg h,if_neg h1,if_neg h2,hid,h3];simp only[iK h4];rw[if_neg h5,if_pos h6,if_neg h7]
theorem Dp(h6:x.kind=4)(h7:(ca b.af x.ref x.ord x.al x.aw).2=0):du b x=(⟨(ca b.af x.ref x.ord x.al x.aw).1,b.ai,b.ids,x.time,b.bad⟩,0):=by
 unfold du;rw[if_neg h,if_neg h1,if_neg h2,hid,h3];simp only[iK h4];rw[if_neg h5,if_neg (show ¬x.kind=2 by omega),if_pos h6,if_pos h7]
theorem Oq(h6:x.kind=4)(h7:¬(ca b.af x.ref x.ord x.al x.aw).2=0):du b x=(⟨b.af,b.ai,b.ids,x.time,b.bad⟩,kt (ca b.af x.ref x.ord x.al x.aw).2):=by
 unfold du;rw[if_neg h,if_neg h1,if_neg h2,hid,h3];simp only[iK h4];rw[if_neg h5,if_neg (show ¬x.kind=2 by omega),if_pos h6,if_neg h7]
theorem Vy(hr:aU b.af=true)(h6:¬x.kind=2)(h7:¬x.kind=4):du b x=(⟨b.af.set n ⟨o.id,o.acc,o.sym,o.au,o.al,o.aw,o.done,false⟩,b.ai,b.ids,x.time,b.bad⟩,0):=by
 rw[if_neg h7] at hid
 subst hid
 unfold du;rw[if_neg h,if_neg h1,if_neg h2,if_neg h7,h3];simp only[iK h4];rw[if_neg h5,if_neg h6,if_neg h7,BL hr h3 h4,if_pos rfl]
end
theorem BV{b:Bk}{x:Ex}(h:aQ b=false∨dh x=false):aY b x=(b,0):=by
 unfold aY;rcases h with h|h<;>simp[h]
theorem o7{b:Bk}{x:Ex}(h1:aQ b=true)(h2:dh x=true):aY b x=bM b x:=by unfold aY;simp[h1,h2]
end Go.Bk
namespace Go.Bk
open Go Go.Abs
abbrev Ws:=Int×Int
def ec(a b:Ws):Ws:=(IntKind.i64.wrap (a.1+b.1),IntKind.i64.wrap (a.2+b.2))
def dp(au:Bool)(q:Int):Ws:=if au then(q,0) else(0,q)
def cu(b:Bk)(f:Dn):Bool:=if f.time<0∨4611686018427387904<f.time then false else decide (10<IntKind.i64.wrap (b.clock-f.time))
def fj(fin:Bool)(acc sym:Bs)(f:Dn):Ws:=if f.live=true∧f.acc=acc∧f.sym=sym then(if f.au then(f.al,if fin then -f.al else 0) else(if fin then -f.al else 0,f.al)) else(0,0)
def fx(acc sym:Bs)(o:Od):Ws:=if o.acc=acc∧o.sym=sym then dp o.au (db o) else(0,0)
def iS(acc sym:Bs)(o:Od):Ws:=if o.acc=acc∧o.sym=sym then dp o.au (o.al-o.done) else(0,0)
def cX:List Ws→Ws
 |[]=>(0,0)
 |x::l=>(x.1+(cX l).1,x.2+(cX l).2)
theorem qA(l m:List Ws):cX (l++m)=((cX l).1+(cX m).1,(cX l).2+(cX m).2):=by
 induction l with
 |nil=>simp[cX]
 |cons x l ih=>simp only[List.cons_append,cX,ih];exact Prod.ext (by simp only[];omega) (by simp only[];omega)
def ji(b:Bk)(acc sym:Bs)(l:List Dn):List Ws:=l.map fun f=>fj (cu b f) acc sym f
def lR(b:Bk)(acc sym:Bs):Ws:=((cX (ji b acc sym b.ai)).1+(cX (b.af.map (fx acc sym))).1,(cX (ji b acc sym b.ai)).2+(cX (b.af.map (fx acc sym))).2)
def fF(b:Bk)(acc sym:Bs):Ws:=if aQ b then lR b acc sym else(0,0)
def ke(l:List Od)(acc sym:Bs):Ws:=if aU l then cX (l.map (iS acc sym)) else(0,0)
def cZ(w:Ws)(n:Int):Prop:=-n≤w.1∧w.1≤n∧-n≤w.2∧w.2≤n
theorem sH{l:List Ws}{c:Int}(hc:0≤c)(h:∀w∈l,cZ w c):cZ (cX l) (l.length*c):=by
 induction l with
 |nil=>simp[cX,cZ]
 |cons x l ih=>
  have h1:=h x (by simp)
  have h2:=ih fun w hw=>h w (by simp[hw])
  simp only[cZ,cX,List.length_cons] at *
  rw[show(((l.length+1:Nat):Int))*c=l.length*c+c by rw[Int.natCast_add,Int.add_mul];simp]
  omega
theorem oB{b:Bool}{q c:Int}(h:0≤q)(h2:q≤c):cZ (dp b q) c:=by
 unfold dp cZ;cases b<;>simp<;>omega
theorem KF{fin:Bool}{acc sym:Bs}{f:Dn}(h:0≤f.al)(h2:f.al≤1099511627776):cZ (fj fin acc sym f) 1099511627776:=by
 unfold fj cZ
 split
 ·cases f.au<;>cases fin<;>simp<;>omega
 ·simp
theorem mS(o:Od):0≤db o∧db o≤1099511627776:=by
 unfold db
 split
 ·rename_i h
  simp only[bn,bJ,Bool.and_eq_true,decide_eq_true_eq] at h;omega
 ·omega
theorem X4{acc sym:Bs}{o:Od}:cZ (fx acc sym o) 1099511627776:=by
 unfold fx
 split
 ·exact oB (mS o).1 (mS o).2
 ·simp[cZ]
theorem nS{a b:Ws}{n m:Int}(h1:cZ a n)(h2:cZ b m)(h:n+m≤9000000000000000000):ec a b=(a.1+b.1,a.2+b.2):=by
 simp only[cZ] at h1 h2
 unfold ec
 rw[aq (by omega) (by omega),aq (by omega) (by omega)]
section
variable{b:Bk}{acc sym:Bs}{i:Nat}{f:Dn}{w:Ws}
def dO(b:Bk)(acc sym:Bs)(i:Nat):Ws:=cX (ji b acc sym (b.ai.take i))
def dV(b:Bk)(acc sym:Bs)(i:Nat):Ws:=((dO b acc sym b.ai.length).1+(cX ((b.af.take i).map (fx acc sym))).1,(dO b acc sym b.ai.length).2+(cX ((b.af.take i).map (fx acc sym))).2)
theorem j8(hr:aQ b=true):∀f∈b.ai,0≤f.al∧f.al≤1099511627776∧0≤f.time∧f.time≤b.clock:=by
 intro f hf
 have h:=(eO.1 hr).2.2.1 f hf
 simp only[cd,bJ,Bool.and_eq_true,decide_eq_true_eq] at h
 omega
theorem qq(hr:aQ b=true):cZ (dO b acc sym i) (256*1099511627776):=by
 have h1:∀x∈ji b acc sym (b.ai.take i),cZ x 1099511627776:=by
  intro x hx
  obtain⟨f,hf,rfl⟩:=List.mem_map.1 hx
  have:=j8 hr f (List.mem_of_mem_take hf)
  exact KF this.1 this.2.1
 have h2:=sH (by omega) h1
 have h3:(ji b acc sym (b.ai.take i)).length≤256:=by
  have:=(eO.1 hr).1.2.1
  simp only[ji,List.length_map,List.length_take];omega
 simp only[cZ,dO] at *
 omega
theorem qF(hb:b.ai[i]?=some f):dO b acc sym (i+1)=((dO b acc sym i).1+(fj (cu b f) acc sym f).1,(dO b acc sym i).2+(fj (cu b f) acc sym f).2):=by
 unfold dO ji
 rw[cp hb,List.map_append,qA]
 simp[cX]
theorem EL(hb:b.ai[i]?=some f)(hw:w=dO b acc sym i)(h:¬(f.live=true∧f.acc=acc∧f.sym=sym)):w=dO b acc sym (i+1):=by
 rw[qF hb,hw];unfold fj;rw[if_neg h];simp
theorem L5(hr:aQ b=true)(hb:b.ai[i]?=some f)(hw:w=dO b acc sym i)(h:f.live=true∧f.acc=acc∧f.sym=sym)(hf:cu b f=false):ec w (dp f.au f.al)=dO b acc sym (i+1):=by
 have ha:=j8 hr f (List.mem_of_getElem? hb)
 rw[qF hb,hw,nS (qq hr) (oB ha.1 ha.2.1) (by omega)];unfold fj dp;rw[if_pos h,hf];cases f.au<;>simp
theorem Cn(hr:aQ b=true)(hb:b.ai[i]?=some f)(hw:w=dO b acc sym i)(h:f.live=true∧f.acc=acc∧f.sym=sym)(hf:cu b f=true):ec (ec w (dp f.au f.al)) (dp (!f.au) (IntKind.i64.wrap (0-f.al)))=dO b acc sym (i+1):=by
 have ha:=j8 hr f (List.mem_of_getElem? hb)
 have h1:=qq (acc:=acc) (sym:=sym) (i:=i) hr
 have h2:cZ (dp f.au f.al) 1099511627776:=oB ha.1 ha.2.1
 have hn:IntKind.i64.wrap (0-f.al)= -f.al:=by rw[aq (by omega) (by omega)];omega
 have h3:cZ (dp (!f.au) (-f.al)) 1099511627776:=by unfold dp cZ;cases f.au<;>simp<;>omega
 rw[qF hb,hw,nS h1 h2 (by omega),hn,nS (n:=257*1099511627776) (by simp only[cZ] at *;omega) h3 (by omega)]
 unfold fj dp;rw[if_pos h,hf];cases f.au<;>simp
theorem uV(hr:aQ b=true):cZ (dV b acc sym i) (320*1099511627776):=by
 have h1:=qq (acc:=acc) (sym:=sym) (i:=b.ai.length) hr
 have h2:cZ (cX ((b.af.take i).map (fx acc sym))) (((b.af.take i).map (fx acc sym)).length*1099511627776):=sH (by omega) (fun x hx=>by
  obtain⟨o,_,rfl⟩:=List.mem_map.1 hx;exact X4)
 have h3:((b.af.take i).map (fx acc sym)).length≤64:=by
  have:=ly (eO.1 hr).1.1
  simp only[List.length_map,List.length_take];omega
 simp only[cZ,dV] at *
 omega
variable{o:Od}
theorem Ic(hi:b.ai.length≤i)(hw:w=dO b acc sym i):w=dV b acc sym 0:=by
 rw[hw];unfold dV dO;rw[List.take_of_length_le hi,List.take_length];simp[cX]
theorem z7(hb:b.af[i]?=some o):dV b acc sym (i+1)=((dV b acc sym i).1+(fx acc sym o).1,(dV b acc sym i).2+(fx acc sym o).2):=by
 unfold dV
 rw[cp hb,List.map_append,qA]
 simp[cX,Int.add_assoc]
theorem WV(hb:b.af[i]?=some o)(hw:w=dV b acc sym i)(h:¬(o.acc=acc∧o.sym=sym)):w=dV b acc sym (i+1):=by
 rw[z7 hb,hw];unfold fx;rw[if_neg h];simp
theorem JK(hr:aQ b=true)(hb:b.af[i]?=some o)(hw:w=dV b acc sym i)(h:o.acc=acc∧o.sym=sym):ec w (dp o.au (db o))=dV b acc sym (i+1):=by
 rw[z7 hb,hw,nS (uV hr) (oB (mS o).1 (mS o).2) (by omega)];unfold fx;rw[if_pos h]
theorem Nq(hr:aQ b=true)(hi:b.af.length≤i)(hw:w=dV b acc sym i):w=fF b acc sym:=by
 rw[hw];unfold dV fF dO;rw[List.take_of_length_le hi,List.take_length,if_pos hr];rfl
end
end Go.Bk
namespace Go.Bk
open Go Go.Abs
section
variable{b:Bk}{x:Ex}{acc sym:Bs}
end
theorem RC{b:Bk}{acc sym:Bs}:cZ (fF b acc sym) (320*1099511627776):=by
 unfold fF
 split
 ·rename_i hr
  have:=uV (acc:=acc) (sym:=sym) (i:=b.af.length) hr
  have e:dV b acc sym b.af.length=lR b acc sym:=by unfold dV dO lR;rw[List.take_length,List.take_length]
  rwa[e] at this
 ·simp[cZ]
end Go.Bk
end
