/- (Q13, Q14, Q15) -/
import Derived.Test.YtajeeghgiilhiaaGreatKxJ
import Derived.Test.YtajeeghgiilhiaaGreatKxI
import Derived.Test.YtajeeghgiilhiaaGreatKxE
import Derived.Test.YtajeeghgiilhiaaGreatKxA
set_option linter.unusedVariables false
set_option linter.unusedSimpArgs false
set_option maxHeartbeats 16000000
set_option maxRecDepth 8000
section
namespace Go.Proofs.YtajeeghgiilhiaaGreat
open Go Go.Abs Go.RowKit Go.Bk
theorem yw{o:Od}(h:bw o=true):0≤o.done∧o.done≤o.aq∧0≤o.aq∧o.aq≤1099511627776∧0≤o.aA∧o.aA≤1099511627776:=by
 simp only[bw,bS,Bool.and_eq_true,decide_eq_true_eq] at h;omega
theorem uT{o:Od}{b:Bs}{q p:Int}{x:Bool}(h:bw o=true)(h1:iC b=true)(h2:bS q=true)(h3:bS p=true)(h4:o.done≤q):bw ⟨b,o.acc,o.sym,o.az,q,p,o.done,x⟩=true:=by
 simp only[bw,Bool.and_eq_true,decide_eq_true_eq] at h ⊢
 obtain⟨⟨⟨⟨⟨⟨a1,a2⟩,a3⟩,a4⟩,a5⟩,a6⟩,a7⟩:=h
 exact⟨⟨⟨⟨⟨⟨h1,a2⟩,a3⟩,h2⟩,h3⟩,a6⟩,h4⟩
theorem qA{α:Type}{f:α→AV}{l:List α}{n k m:Nat}{o:α}(hn:n<l.length):((l.map f++spare k m).set n (f o)).take l.length=(l.set n o).map f:=by
 rw[List.set_append_left _ _ (by simpa using hn),List.take_left' aD,List.map_set]
theorem o9(l:List Od)(n:Nat)(o:Od)(hn:n<l.length)(hl:l.length≤1000000):ai E 257 [aV l,i64 n,a8 o] (fun r t=>r= .sl (some 0) 8 ((l.set n o).map a8)∧t=[l.length]):=by
 refine ai.aw (n:=16) (rs:=[.tmp 6]) Tryz.func257 rfl Tryz.ntmps257 rfl ?_
 repeat'(first
 |refine aa.aj fun K hK=>?_
 |(
  refine aa.here 2 11 5 rfl ?_
  obtain⟨b,hb⟩:∃b,l[n]?=some b:=⟨_,List.getElem?_eq_getElem hn⟩
  have hb2:(l.map a8++spare 8 mm)[n]?=some (a8 b):=by rw[List.getElem?_append_left (by simpa using hn),List.getElem?_map,hb];rfl
  refine aa.region ?_;simp only[go_sem])
 |(
  refine aa.here 3 15 2 rfl ?_
  refine aa.yu 7 2 8 l.length ((l.map a8++spare 8 mm).set n (a8 o)) (congrArg (fun x=>some (AV.mu 2 8 0 l.length x)) (by simp[cJ])) rfl aD (by rw[qA hn];exact iO _) ?_
  rw[qA hn]
  refine aa.region ?_;simp only[go_sem])
 |(
  refine aa.here 1 8 4 rfl ?_
  refine aa.bA ?_
  refine an.iY pY ?_
  simp only[go_sem]
  refine an.of ?_
  simp only[go_sem])
 |(refine aa.region ?_;simp only[go_sem])
 |(refine hK _ ?_;clear hK K)
 |(refine aM.gj ae ?_;(try simp only[go_sem]))
 |((with_reducible refine And.intro ?_ ?_);(focus(first|omega|(intro e;have e2:=congrArg List.length e;simp only[List.length_map,List.length_nil] at e2;omega)));(try simp only[hb,go_sem]))
 |(
  refine aa.ret ?_
  simp only[go_sem]
  exact⟨[(true,0)],.sl (some 0) 8 _,rfl,⟨rfl,rfl,rfl⟩,rfl,by simp[gG]⟩)
 |(refine fun(mm:Nat)=>?_;simp only[go_sem]))
theorem tg(l:List Dn)(n:Nat)(o:Dn)(hn:n<l.length)(hl:l.length≤1000000):ai E 256 [cg l,i64 n,bY o] (fun r t=>r= .sl (some 0) 9 ((l.set n o).map bY)∧t=[l.length]):=by
 refine ai.aw (n:=16) (rs:=[.tmp 6]) Tryz.func256 rfl Tryz.ntmps256 rfl ?_
 repeat'(first
 |refine aa.aj fun K hK=>?_
 |(
  refine aa.here 2 11 5 rfl ?_
  obtain⟨b,hb⟩:∃b,l[n]?=some b:=⟨_,List.getElem?_eq_getElem hn⟩
  have hb2:(l.map bY++spare 9 mm)[n]?=some (bY b):=by rw[List.getElem?_append_left (by simpa using hn),List.getElem?_map,hb];rfl
  refine aa.region ?_;simp only[go_sem])
 |(
  refine aa.here 3 15 2 rfl ?_
  refine aa.yu 7 2 9 l.length ((l.map bY++spare 9 mm).set n (bY o)) (congrArg (fun x=>some (AV.mu 2 9 0 l.length x)) (by simp[cJ])) rfl aD (by rw[qA hn];exact qi _) ?_
  rw[qA hn]
  refine aa.region ?_;simp only[go_sem])
 |(
  refine aa.here 1 8 4 rfl ?_
  refine aa.bA ?_
  refine an.iY xK ?_
  simp only[go_sem]
  refine an.of ?_
  simp only[go_sem])
 |(refine aa.region ?_;simp only[go_sem])
 |(refine hK _ ?_;clear hK K)
 |(refine aM.gj ae ?_;(try simp only[go_sem]))
 |((with_reducible refine And.intro ?_ ?_);(focus(first|omega|(intro e;have e2:=congrArg List.length e;simp only[List.length_map,List.length_nil] at e2;omega)));(try simp only[hb,go_sem]))
 |(
  refine aa.ret ?_
  simp only[go_sem]
  exact⟨[(true,0)],.sl (some 0) 9 _,rfl,⟨rfl,rfl,rfl⟩,rfl,by simp[gG]⟩)
 |(refine fun(mm:Nat)=>?_;simp only[go_sem]))
theorem RS(l:List Od)(o:Od)(hl:l.length≤1000000):ai E 244 [aV l,a8 o] (fun r t=>r= .aC [aV (cN l o).1,i64 (cN l o).2]∧t=[]):=by
 refine ai.aw (n:=33) (rs:=[.tmp 4,.tmp 5]) Tryz.func244 rfl Tryz.ntmps244 rfl ?_
 repeat'(first
 |refine aa.aj fun K hK=>?_
 |(refine aa.region ?_;simp only[go_sem])
 |(refine aa.here 9 27 8 rfl ?_;refine aa.gZ (.take 1 (.take 3 (.fork (.alt 0 (.fork (.alt 2 (.take 4 (.take 5 (.take 6 (.take 7 .done)))) (.alt 4 (.take 2 (.take 5 (.take 6 (.take 7 .done)))) .ends))) (.alt 4 (.take 0 (.take 2 (.take 5 (.take 6 (.take 7 .done))))) .ends))))) [[],[],[0,1],[],[3],[0,1,2,3,4],[0,1,2,3,4,5],[0,1,2,3,4,5,6]] [] af af ?_;simp only[go_sem])
 |(refine hK _ ?_;clear hK K)
 |refine aa.cond rfl (fun c=>?_) (fun c=>?_)<;>first|exact Bool.noConfusion c|(try simp only[dD] at c)
 |refine aa.skip ?_
 |(refine ah.one (oN _ (by(omega))) af rfl ?_;simp only[go_sem])
 |(refine ah.one (qh ⟨o.id,o.acc,o.sym,o.az,o.aq,o.aA,0,true⟩) af rfl ?_;simp only[go_sem])
 |(refine ah.one (fY _ _ (by(omega))) af rfl ?_;simp only[go_sem])
 |(refine aL.split (fun h=>?_) (fun h=>?_)<;>simp only[h,go_sem]<;>(try simp only[dD] at h))
 |((with_reducible refine And.intro ?_ ?_);(focus(first|omega|(simp;done)));(try simp only[hb,go_sem]))
 |(
  refine aa.ret ?_
  refine aB.is ?_;simp only[go_sem,aE,aI,aH,aG,aJ,aF]<;>(first
  |(rw[gV (Bb ae) qt ay];simp;done)
  |(rw[gV (yM ae) qt ay];simp;done)
  |(rw[gV (zj ae ae ae) qt ay];simp;done)
  |(rw[gV (Bt ae ae ae ab) qt ay];simp;done)
  |(rw[yB ae ae ae ab];simp;done)))
 |(refine And.intro ?_ ?_))
theorem vt(l:List Od)(id:Bs)(hl:l.length≤1000000):ai E 246 [aV l,str id] (fun r t=>(bd l=false∧r= .aC [aV l,i64 1]∧t=[])∨(bd l=true∧cP l id=none∧r= .aC [aV l,i64 6]∧t=[])∨(∃(n:Nat) (o:Od),bd l=true∧bW l id=n∧cP l id=some n∧l[n]?=some o∧o.bq=true∧r= .aC [.sl (some 0) 8 ((l.set n ⟨o.id,o.acc,o.sym,o.az,o.aq,o.aA,o.done,false⟩).map a8),i64 0]∧t=[l.length])):=by
 refine ai.aw (n:=35) (rs:=[.tmp 4,.tmp 5]) Tryz.func246 rfl Tryz.ntmps246 rfl ?_
 repeat'(first
 |refine aa.aj fun K hK=>?_
 |(refine aa.region ?_;simp only[go_sem])
 |(refine hK _ ?_;clear hK K)
 |refine aa.cond rfl (fun c=>?_) (fun c=>?_)<;>first|exact Bool.noConfusion c|(try simp only[dD] at c)
 |refine aa.skip ?_
 |(refine ah.one (oN _ (by(omega))) af rfl ?_;simp only[go_sem])
 |(refine ah.one (fY _ _ (by(omega))) af rfl ?_;simp only[go_sem])
 |(refine ah.of (o9 l n ⟨o.id,o.acc,o.sym,o.az,o.aq,o.aA,o.done,false⟩ ae ae) af rfl ?_;rintro r t ⟨rfl,rfl⟩;simp only[go_sem])
 |(refine aL.cc (fun h=>?_) (fun h=>?_)<;>simp only[h,go_sem]<;>(try simp only[dD] at h))
 |(refine aM.bG ae ?_;(try simp only[go_sem]))
 |((first|refine aM.nth ?_ (fun b hb=>?_)|with_reducible refine And.intro ?_ ?_);(focus(omega));(try simp only[hb,go_sem]))
 |(
  refine aa.ret ?_
  simp only[go_sem]
  first
  |exact⟨[],.aC [aV l,i64 1],rfl,⟨⟨rfl,rfl⟩,rfl,trivial⟩,.inl ⟨by assumption,rfl,rfl⟩⟩
  |exact⟨[],.aC [aV l,i64 6],rfl,⟨⟨rfl,rfl⟩,rfl,trivial⟩,.inr (.inl ⟨by assumption,rN ae,rfl,rfl⟩)⟩
  |exact⟨[],.aC [aV l,i64 6],rfl,⟨⟨rfl,rfl⟩,rfl,trivial⟩,.inr (.inl ⟨by assumption,by rw[l4 hpf ho];simp[*],rfl,rfl⟩)⟩
  |exact⟨[(true,0)],.aC [.sl (some 0) 8 _,i64 0],rfl,⟨⟨rfl,rfl,rfl⟩,rfl,trivial⟩,.inr (.inr ⟨n,o,by assumption,hp,by rw[l4 hpf ho];simp[*],ho,by assumption,rfl,by simp[gG]⟩)⟩)
 |(obtain⟨n,o,hp,hpf,ho,hn⟩:=lW (l:=l) (id:=id) ae;simp only[hp,ho,go_sem,Int.toNat_natCast]))
theorem xl(l:List Od)(id:Bs)(q p:Int)(hl:l.length≤1000000):ai E 247 [aV l,str id,i64 q,i64 p] (fun r t=>r= .aC [aV (cp l id q p).1,i64 (cp l id q p).2]∧t=[]):=by
 refine ai.aw (n:=86) (rs:=[.tmp 8,.tmp 9]) Tryz.func247 rfl Tryz.ntmps247 rfl ?_
 repeat'(first
 |refine aa.aj fun K hK=>?_
 |(
  refine aa.here 7 34 11 rfl ?_
  have hr:bd l=true:=by assumption
  have hm:=lU hr ho
  have hop:cP l id=some n:=by rw[l4 hpf ho];simp[*]
  have hopn:o.bq=true:=by assumption
  have hb3:=yw hm
  have hlf:dn o=o.aq-o.done:=by unfold dn;simp[hm,hopn]
  have hw:IntKind.i64.wrap (o.aq-o.done)=o.aq-o.done:=av ab ab
  refine aa.region ?_;simp only[go_sem,hw])
 |(
  refine aa.here 11 71 6 rfl ?_
  have hw2:IntKind.i64.wrap (o.done+q)=o.done+q:=av ab ab
  refine aa.region ?_;simp only[go_sem,hw2])
 |(refine aa.region ?_;simp only[go_sem])
 |(refine hK _ ?_;clear hK K)
 |refine aa.cond rfl (fun c=>?_) (fun c=>?_)<;>first|exact Bool.noConfusion c|(try simp only[dD] at c)
 |refine aa.skip ?_
 |(refine ah.one (oN _ (by(omega))) af rfl ?_;simp only[go_sem])
 |(refine ah.one (fY _ _ (by(omega))) af rfl ?_;simp only[go_sem])
 |(refine ah.one (uh _) af rfl ?_;simp only[go_sem])
 |(refine ah.of (o9 l n ⟨o.id,o.acc,o.sym,true,o.aq,o.aA,o.done+q,false⟩ ae ae) af rfl ?_;rintro r t ⟨rfl,rfl⟩;simp only[go_sem])
 |(refine ah.of (o9 l n ⟨o.id,o.acc,o.sym,true,o.aq,o.aA,o.done+q,o.bq⟩ ae ae) af rfl ?_;rintro r t ⟨rfl,rfl⟩;simp only[go_sem])
 |(refine ah.of (o9 l n ⟨o.id,o.acc,o.sym,false,o.aq,o.aA,o.done+q,false⟩ ae ae) af rfl ?_;rintro r t ⟨rfl,rfl⟩;simp only[go_sem])
 |(refine ah.of (o9 l n ⟨o.id,o.acc,o.sym,false,o.aq,o.aA,o.done+q,o.bq⟩ ae ae) af rfl ?_;rintro r t ⟨rfl,rfl⟩;simp only[go_sem])
 |(refine aL.cc (fun h=>?_) (fun h=>?_)<;>simp only[h,go_sem]<;>(try simp only[dD] at h))
 |(refine aL.split (fun h=>?_) (fun h=>?_)<;>simp only[h,go_sem]<;>(try simp only[dD] at h))
 |(refine aM.bG ae ?_;(try simp only[go_sem]))
 |((first|refine aM.nth ?_ (fun b hb=>?_)|with_reducible refine And.intro ?_ ?_);(focus(omega));(try simp only[hb,go_sem]))
 |(
  refine aa.ret ?_
  refine aB.is ?_;simp only[go_sem,aE,aI,aH,aG,aJ,aF]<;>(first
  |(rw[gV (Bu ae) nK ay];simp;done)
  |(rw[gV (ua ae (rN ae)) nK ay];simp;done)
  |(rw[gV (ua ae (by rw[l4 hpf ho];simp[*])) nK ay];simp;done)
  |(rw[gV (qu hr hop ho (.inl ab)) nK ay];simp;done)
  |(rw[gV (qu hr hop ho (.inr ab)) nK ay];simp;done)
  |(rw[gV (wU hr hop ho ab ab (by simp[eD, *]<;>omega)) nK ay];simp;done)
  |(have hbuy:o.az=true:=by assumption
    rw[lN hr hop ho ab ab (by simp[eD, *]<;>omega),decide_eq_false ab];simp[hbuy,hopn];done)
  |(have hbuy:o.az=true:=by assumption
    rw[lN hr hop ho ab ab (by simp[eD, *]<;>omega),decide_eq_true ab];simp[hbuy,hopn];done)
  |(have hbuy:o.az=false:=by assumption
    rw[lN hr hop ho ab ab (by simp[eD, *]<;>omega),decide_eq_false ab];simp[hbuy,hopn];done)
  |(have hbuy:o.az=false:=by assumption
    rw[lN hr hop ho ab ab (by simp[eD, *]<;>omega),decide_eq_true ab];simp[hbuy,hopn];done)))
 |(obtain⟨n,o,hp,hpf,ho,hn⟩:=lW (l:=l) (id:=id) ae;simp only[hp,ho,go_sem,Int.toNat_natCast]))
theorem LW(l:List Od)(a b:Bs)(q p:Int)(hl:l.length≤1000000):ai E 248 [aV l,str a,str b,i64 q,i64 p] (fun r t=>r= .aC [aV (cm l a b q p).1,i64 (cm l a b q p).2]∧t=[]):=by
 refine ai.aw (n:=75) (rs:=[.tmp 10,.tmp 11]) Tryz.func248 rfl Tryz.ntmps248 rfl ?_
 repeat'(first
 |refine aa.aj fun K hK=>?_
 |(
  refine aa.here 5 31 19 rfl ?_
  have hm:=lU hr ho
  have hb3:=yw hm
  refine aa.region ?_;simp only[go_sem])
 |(refine aa.region ?_;simp only[go_sem])
 |(refine hK _ ?_;clear hK K)
 |refine aa.cond rfl (fun c=>?_) (fun c=>?_)<;>first|exact Bool.noConfusion c|(try simp only[dD] at c)
 |refine aa.skip ?_
 |(refine ah.of (vt l a ae) af rfl ?_;rintro r t (⟨hr,rfl,rfl⟩|⟨hr,hop,rfl,rfl⟩|⟨n,o,hr,hp,hop,ho,hopn,rfl,rfl⟩)<;>simp only[go_sem])
 |(refine ah.one (fY l a ab) af rfl ?_;simp only[hp,ho,Int.toNat_natCast];simp only[go_sem])
 |(refine ah.one (fY _ _ (by(omega))) af rfl ?_;simp only[go_sem])
 |(refine ah.one (xN _) af rfl ?_;simp only[go_sem])
 |(refine ah.one (uh _) af rfl ?_;simp only[go_sem])
 |(refine aL.split (fun h=>?_) (fun h=>?_)<;>simp only[h,go_sem]<;>(try simp only[dD] at h))
 |(refine aM.bG ae ?_;(try simp only[go_sem]))
 |((with_reducible refine And.intro ?_ ?_);(focus(first|(simp;done)|(simp only[List.length_set] at *;omega)));(try simp only[hb,go_sem]))
 |(
  refine aa.ret ?_
  refine aB.is ?_;simp only[go_sem,aE,aI,aH,aG,aJ,aF]<;>(first
  |(rw[gV (Go.Bk.rO hr) qg ay];simp;done)
  |(rw[gV (Go.Bk.pb hr hop) qg ay];simp;done)
  |(rw[gV (y5 hr hop ho (by simp[bw, *]<;>omega)) qg ay];simp;done)
  |(rw[gV (Go.Bk.qw hr hop ho (uT hm ae ae ae ab) ae) qg ay];simp;done)
  |(rw[gV (w7 hr hop ho (uT hm ae ae ae ab) ae ab) qg ay];simp;done)
  |(rw[zP hr hop ho (uT hm ae ae ae ab) ae ab];simp;done))))
theorem nl{v:Bool}{p:Prop}(h:v=true)(h2:¬p):¬(v=false∨p):=by simp[h,h2]
theorem Vg(bk:Bk)(x:Ex)(hr:bd bk.ak=true)(hs:bS x.aA=true)(hf:bk.al.length≤1000000)(hft:∀f∈bk.al,0≤f.time∧f.time≤4611686018427387904):ai E 245 [dx bk,ar x] (fun r t=>r= .aC [dx (bQ bk x).1,i64 (bQ bk x).2]∧t=[]):=by
 have hol:=l8 hr
 refine ai.aw (n:=132) (rs:=[.cell 4 26,.tmp 5]) Tryz.func245 rfl Tryz.ntmps245 rfl ?_
 repeat'(first
 |refine aa.aj fun K hK=>?_
 |(refine aa.region ?_;simp only[go_sem])
 |(refine aa.here 2 14 23 rfl ?_;refine aa.bf [0,1,2,3,4,5,6,7,8,9,10,11,12,13,14,15,16,17,18,19,20,21,22] [] af af rfl ?_;simp only[go_sem])
 |(refine aa.here 12 85 33 rfl ?_;refine aa.bf [0,1,2,3,4,5,6,7,8,9,10,11,12,13,14,15,16,17,18,19,20,21,22,23,24,25,26,27,28,29,30,31,32] [] af af rfl ?_;simp only[go_sem])
 |(refine hK _ ?_;clear hK K)
 |refine aa.cond rfl (fun c=>?_) (fun c=>?_)<;>first|exact Bool.noConfusion c|(try simp only[dD] at c)
 |refine aa.skip ?_
 |(refine ah.one (w6 _ _ (by(omega))) af rfl ?_;simp only[go_sem])
 |(refine ah.one (fY _ _ (by(omega))) af rfl ?_;simp only[go_sem])
 |(refine ah.of (tg bk.al n ⟨f.id,f.ord,f.acc,f.sym,f.az,f.aq,f.aA,f.time,false⟩ ae ae) af rfl ?_;rintro r t ⟨rfl,rfl⟩;simp only[go_sem])
 |(refine ah.of (tg bk.al n ⟨f.id,f.ord,f.acc,f.sym,true,x.aq,x.aA,f.time,f.live⟩ ae ae) af rfl ?_;rintro r t ⟨rfl,rfl⟩;simp only[go_sem])
 |(refine ah.of (tg bk.al n ⟨f.id,f.ord,f.acc,f.sym,false,x.aq,x.aA,f.time,f.live⟩ ae ae) af rfl ?_;rintro r t ⟨rfl,rfl⟩;simp only[go_sem])
 |(refine aL.cc (fun h=>?_) (fun h=>?_)<;>simp only[h,go_sem]<;>(try simp only[dD] at h))
 |(refine aL.split (fun h=>?_) (fun h=>?_)<;>simp only[h,go_sem]<;>(try simp only[dD] at h))
 |(refine aM.bG ae ?_;(try simp only[go_sem]))
 |((first|refine aM.nth ?_ (fun b hb=>?_)|with_reducible refine And.intro ?_ ?_);(focus(omega));(try simp only[hb,go_sem]))
 |(
  refine aa.ret ?_
  refine aB.is ?_;simp only[go_sem,aE,aI,aH,aG,aJ,aF]<;>(first
  |(rw[KS ae];simp;done)
  |(rw[wG hpf hfn (.inl ae)];simp;done)
  |(rw[wG hpf hfn (.inr ab)];simp;done)
  |(rw[LA hpf hfn (nl ae ab) (by first|exact .inl ae |exact .inr (.inl ae)|exact .inr (.inr (.inl ae))|exact .inr (.inr (.inr ae)))];simp;done)
  |(rw[MY hpf hfn (nl ae ab) (by rintro(h|h|h|h)<;>exact h ae) ae];simp;done)
  |(rw[Tf hpf hfn (nl ae ab) (by rintro(h|h|h|h)<;>exact h ae) ae ae];simp;done)
  |(rw[SF hpf hfn hr (nl ae ab) (by rintro(h|h|h|h)<;>exact h ae) ae ae ae];simp;done)
  |(rw[xk hpf hfn hr (nl ae ab) (by rintro(h|h|h|h)<;>exact h ae) ae ae hq ho (.inl ⟨by assumption,by assumption⟩)];simp;done)
  |(rw[xk hpf hfn hr (nl ae ab) (by rintro(h|h|h|h)<;>exact h ae) ae ae hq ho (.inr ⟨by assumption,by assumption⟩)];simp;done)
  |(have hbuy:f.az=true:=by assumption
    rw[xA hpf hfn hr hs (nl ae ab) (by rintro(h|h|h|h)<;>exact h ae) ae ae hq ho (.inl ⟨hbuy,by assumption⟩)];simp[hbuy];done)
  |(have hbuy:f.az=false:=by assumption
    rw[xA hpf hfn hr hs (nl ae ab) (by rintro(h|h|h|h)<;>exact h ae) ae ae hq ho (.inr ⟨hbuy,by assumption⟩)];simp[hbuy];done)))
 |(obtain⟨n,f,hp,hpf,hfn,hn⟩:=Iw (l:=bk.al) (id:=x.ref) ae;have hfm:=hft f (List.mem_of_getElem? hfn);have hw:IntKind.i64.wrap (f.time+10)=f.time+10:=av ab ab;simp only[hp,hfn,hw,go_sem,Int.toNat_natCast])
 |(obtain⟨m,o,hq,hqf,ho,hm⟩:=lW (l:=bk.ak) (id:=f.ord) ae;simp only[hq,ho,go_sem,Int.toNat_natCast]))
theorem wT{l:List Od}{id:Bs}{n:Nat}{o:Od}(hpf:b7 l id=some n)(ho:l[n]?=some o)(h:o.bq=false):cP l id=none:=by rw[l4 hpf ho,h];rfl
theorem w9{l:List Od}{id:Bs}{n:Nat}{o:Od}(hpf:b7 l id=some n)(ho:l[n]?=some o)(h:o.bq=true):cP l id=some n:=by rw[l4 hpf ho,h];rfl
theorem Rn(bk:Bk)(x:Ex)(hr:bd bk.ak=true)(hs:bS x.aA=true)(hf:bk.al.length≤100000)(hft:∀f∈bk.al,0≤f.time∧f.time≤4611686018427387904):ai E 215 [dx bk,ar x] (fun r t=>r= .aC [dx (dG bk x).1,i64 (dG bk x).2]∧t=[]):=by
 have hol:=l8 hr
 refine ai.aw (n:=178) (rs:=[.cell 4 26,.tmp 5]) Tryz.func215 rfl Tryz.ntmps215 rfl ?_
 repeat'(first
 |refine aa.aj fun K hK=>?_
 |(refine aa.region ?_;simp only[go_sem])
 |(refine aa.here 24 127 24 rfl ?_;refine aa.gZ (.take 1 (.take 2 (.take 4 (.take 5 (.take 6 (.take 7 (.take 8 (.take 9 (.take 10 (.take 11 (.take 12 (.take 13 (.take 14 (.take 15 (.take 16 (.take 17 (.take 18 (.take 19 (.fork (.alt 0 (.fork (.alt 3 (.take 20 (.take 21 (.take 22 (.take 23 .done)))) (.alt 20 (.take 3 (.take 21 (.take 22 (.take 23 .done)))) .ends))) (.alt 20 (.take 0 (.take 3 (.take 21 (.take 22 (.take 23 .done))))) .ends))))))))))))))))))))) [[],[],[1],[0,1,2],[],[4],[],[],[7],[],[9],[],[11],[],[13],[],[15],[],[17],[4,5,6,7,8,9,10,11,12,13,14,15,16,17,18],[4,5,6,7,8,9,10,11,12,13,14,15,16,17,18,19],[0,1,2,3,4,5,6,7,8,9,10,11,12,13,14,15,16,17,18,19,20],[0,1,2,3,4,5,6,7,8,9,10,11,12,13,14,15,16,17,18,19,20,21],[0,1,2,3,4,5,6,7,8,9,10,11,12,13,14,15,16,17,18,19,20,21,22]] [] af af ?_;simp only[go_sem])
 |(refine hK _ ?_;clear hK K)
 |refine aa.cond rfl (fun c=>?_) (fun c=>?_)<;>first|exact Bool.noConfusion c|(try simp only[dD] at c)
 |refine aa.skip ?_
 |(refine ah.one (RS bk.ak (gh x) ab) af rfl ?_;simp only[go_sem])
 |(refine ah.one (Vg ⟨bk.ak,bk.al,bk.ids,x.time,bk.bad⟩ x hr hs (by show bk.al.length≤_;omega) hft) af rfl ?_;simp only[go_sem])
 |(refine ah.one (fY _ _ (by(omega))) af rfl ?_;simp only[go_sem])
 |(refine ah.of (vt bk.ak x.ord ab) af rfl ?_;rintro r t (⟨hr2,_⟩|⟨_,hop2,_⟩|⟨n2,o2,_,hp2,hop2,ho2,hopn2,rfl,rfl⟩);(exact absurd hr (by rw[hr2];simp));(exact absurd hop2 (by rw[l4 hpf ho];simp[*];done));obtain rfl:n=n2:=ab;obtain rfl:o=o2:=(by rw[ho] at ho2;exact Option.some.inj ho2);simp only[go_sem])
 |(refine ah.of (vt bk.ak x.ref ab) af rfl ?_;rintro r t (⟨hr2,_⟩|⟨_,hop2,_⟩|⟨n2,o2,_,hp2,hop2,ho2,hopn2,rfl,rfl⟩);(exact absurd hr (by rw[hr2];simp));(exact absurd hop2 (by rw[l4 hpf ho];simp[*];done));obtain rfl:n=n2:=ab;obtain rfl:o=o2:=(by rw[ho] at ho2;exact Option.some.inj ho2);simp only[go_sem])
 |(refine ah.one (xl bk.ak x.ord x.aq x.aA ab) af rfl ?_;simp only[go_sem])
 |(refine ah.one (xl bk.ak x.ref x.aq x.aA ab) af rfl ?_;simp only[go_sem])
 |(refine ah.one (LW bk.ak x.ref x.ord x.aq x.aA ab) af rfl ?_;simp only[go_sem])
 |(refine aL.cc (fun h=>?_) (fun h=>?_)<;>simp only[h,go_sem]<;>(try simp only[dD] at h))
 |(refine aL.split (fun h=>?_) (fun h=>?_)<;>simp only[h,go_sem]<;>(try simp only[dD] at h))
 |(refine aM.bG ae ?_;(try simp only[go_sem]))
 |((first|refine aM.nth ?_ (fun b hb=>?_)|with_reducible refine And.intro ?_ ?_);(focus(omega));(try simp only[hb,go_sem]))
 |(
  refine aa.ret ?_
  refine aB.is ?_;simp only[go_sem,aE,aI,aH,aG,aJ,aF]<;>(first
  |(exfalso;omega)
  |(rw[Yz ae];simp;done)
  |(rw[EZ ae ae ae];simp;done)
  |(rw[HW ae ae ae];simp;done)
  |(rw[Uu ae ae ae];simp;done)
  |(rw[sy ae ae ae (id:=x.ord) (if_neg ae) (rN ae)];simp;done)
  |(rw[sy ae ae ae (id:=x.ref) (if_pos ae) (rN ae)];simp;done)
  |(rw[sy ae ae ae (id:=x.ord) (if_neg ae) (wT hpf ho ae)];simp;done)
  |(rw[sy ae ae ae (id:=x.ref) (if_pos ae) (wT hpf ho ae)];simp;done)
  |(rw[yZ ae ae ae (id:=x.ord) (if_neg ae) (w9 hpf ho ae) ho (by first|exact .inl ae |exact .inr (.inl ae)|exact .inr (.inr ae))];simp;done)
  |(rw[yZ ae ae ae (id:=x.ref) (if_pos ae) (w9 hpf ho ae) ho (by first|exact .inl ae |exact .inr (.inl ae)|exact .inr (.inr ae))];simp;done)
  |(rw[Rp ae ae ae (id:=x.ord) (if_neg ae) hop2 ho (by rintro(h|h|h)<;>exact h ae) hr ae ae];simp;done)
  |(rw[H7 ae ae ae (id:=x.ord) (if_neg ae) hop2 ho (by rintro(h|h|h)<;>exact h ae) ae ae];simp[jj];done)
  |(rw[Yh ae ae ae (id:=x.ord) (if_neg ae) hop2 ho (by rintro(h|h|h)<;>exact h ae) ae ab];simp[jj,kY, *];done)
  |(rw[DS ae ae ae (id:=x.ref) (if_pos ae) hop2 ho (by rintro(h|h|h)<;>exact h ae) ae ae];simp;done)
  |(rw[GJ ae ae ae (id:=x.ref) (if_pos ae) hop2 ho (by rintro(h|h|h)<;>exact h ae) ae ab];simp[kY, *];done)))
 |(exfalso;omega)
 |(obtain⟨n,o,hp,hpf,ho,hn⟩:=lW (l:=bk.ak) (id:=x.ord) ae;simp only[hp,ho,go_sem,Int.toNat_natCast])
 |(obtain⟨n,o,hp,hpf,ho,hn⟩:=lW (l:=bk.ak) (id:=x.ref) ae;simp only[hp,ho,go_sem,Int.toNat_natCast])
 |(refine And.intro ?_ ?_))
end Go.Proofs.YtajeeghgiilhiaaGreat
end
