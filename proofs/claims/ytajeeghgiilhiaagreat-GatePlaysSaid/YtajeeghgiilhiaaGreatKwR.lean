/- (G22, GtE, G37) -/
import Derived.Test.YtajeeghgiilhiaaGreatKwN
import Derived.Test.YtajeeghgiilhiaaGreatKwQb
import Derived.Test.YtajeeghgiilhiaaGreatKwL
import Derived.Test.YtajeeghgiilhiaaGreatKwM
import Derived.Test.YtajeeghgiilhiaaGreatKwK
import Derived.Test.YtajeeghgiilhiaaGreatKwJ
set_option linter.unusedVariables false
set_option linter.unusedSimpArgs false
set_option maxHeartbeats 16000000
set_option maxRecDepth 8000
section
namespace Go.Proofs.YtajeeghgiilhiaaGreat
open Go Go.Abs Go.RowKit Go.Bk
theorem tQ(n:Int):0≤ej n∧ej n≤4611686018427387904:=by
 unfold ej
 split
 ·omega
 ·split<;>omega
theorem BB{a b:Int}(h:aS a=false∨aS b=false):gv a b=(0,false):=by
 unfold gv
 rcases h with h|h<;>rw[h]<;>simp
theorem Ay{a b:Int}(h:¬(-4611686018427387904≤a+b∧a+b≤4611686018427387904)):gv a b=(0,false):=by
 have e:aS (a+b)=false:=by unfold aS;simp;omega
 unfold gv;rw[e];simp
theorem vc{a b:Int}(h1:aS a=true)(h2:aS b=true)(h:-4611686018427387904≤a+b∧a+b≤4611686018427387904):gv a b=(a+b,true):=by
 have e:aS (a+b)=true:=by unfold aS;simp;omega
 unfold gv;rw[h1,h2,e];rfl
theorem uU(x:Lm):dW x=(decide (0<x.acc.length)&&decide (x.acc.length≤16)&&decide (0<x.sym.length)&&decide (x.sym.length≤16)&&bJ x.kv&&bJ x.short&&bJ x.al&&bJ x.value):=by
 have h:∀s:Bs,gK s=(decide (0<s.length)&&decide (s.length≤16)):=fun s=>by
  unfold gK;congr 1
  cases s<;>simp
 unfold dW;rw[h,h];simp[Bool.and_assoc]
theorem AB(x y:Lm):decide (bw x y<0)=(decide (x.acc<y.acc)||(decide (x.acc=y.acc)&&decide (x.sym<y.sym))):=by
 unfold bw ee gk
 by_cases h1:x.acc<y.acc
 ·simp[h1]
 ·by_cases h2:x.acc=y.acc
  ·have h3:¬y.acc<y.acc:=List.lt_irrefl _
   by_cases h4:x.sym<y.sym
   ·simp[h2,h3,h4]
   ·by_cases h5:x.sym=y.sym
    ·simp[h2,h3,h5,List.lt_irrefl]
    ·simp[h2,h3,h4,h5]
  ·simp[h1,h2]
theorem Ep{x y:Lm}(h1:¬x.acc<y.acc)(h2:x.acc=y.acc):decide (x.sym<y.sym)=decide (bw x y<0):=by
 rw[AB,decide_eq_false h1,decide_eq_true h2];rfl
theorem KM{l:List Lm}{a s:Bs}{i:Nat}{x:Lm}(h:∀k y,k<i→l[k]?=some y→¬(y.acc=a∧y.sym=s∧bX l=true))(hx:l[i]?=some x)(hn:¬(x.acc=a∧x.sym=s∧bX l=true)):∀k y,k<i+1→l[k]?=some y→¬(y.acc=a∧y.sym=s∧bX l=true):=by
 intro k y hk hy
 rcases Nat.lt_or_ge k i with h1|h1
 ·exact h k y h1 hy
 ·obtain rfl:k=i:=by omega
  rw[hx] at hy;cases hy;exact hn
theorem Vg{l:List Lm}{a s:Bs}{i:Nat}(hi:l.length≤i)(h:∀k y,k<i→l[k]?=some y→¬(y.acc=a∧y.sym=s∧bX l=true)):gB l a s=(⟨[],[],0,0,0,0⟩,false):=by
 cases hr:bX l with
 |false=>exact vX hr
 |true=>exact Be hr hi fun k y hk hy e=>h k y hk hy ⟨e.1,e.2,hr⟩
theorem Dk{α:Type}[DecidableEq α]{a b:List α}(h:¬a.length=b.length):decide (a=b)=false:=decide_eq_false fun e=>h (by rw[e])
theorem TM{α:Type}[DecidableEq α]{a b:List α}{i:Nat}{x y:α}(h1:a[i]?=some x)(h2:b[i]?=some y)(h:x≠y):decide (a=b)=false:=decide_eq_false fun e=>h (by rw[e,h2,Option.some.injEq] at h1;exact h1.symm)
theorem TD{α:Type}[DecidableEq α]{a b:List α}{i:Nat}(h0:a.length=b.length)(hi:a.length≤i)(h:a.take i=b.take i):decide (a=b)=true:=by
 rw[List.take_of_length_le hi,List.take_of_length_le (by omega)] at h
 exact decide_eq_true h
theorem vV{α:Type}{a b:List α}{i:Nat}{x y:α}(h1:a[i]?=some x)(h2:b[i]?=some y)(h:x=y)(h3:a.take i=b.take i):a.take (i+1)=b.take (i+1):=by
 rw[List.take_add_one,List.take_add_one,h1,h2,h3,h]
theorem JE{x y:Lm}(h:x.acc=y.acc∧x.sym=y.sym∧x.kv=y.kv∧x.short=y.short∧x.al=y.al∧x.value=y.value):x=y:=by
 cases x;cases y;simp only at h;obtain⟨rfl,rfl,rfl,rfl,rfl,rfl⟩:=h;rfl
theorem Xd{x y:Lm}(h:x.acc=y.acc→x.sym=y.sym→x.kv=y.kv→x.short=y.short→x.al=y.al→¬x.value=y.value):x≠y:=by
 rintro rfl;exact h rfl rfl rfl rfl rfl rfl
section
variable{l:List Od}{acc sym:Bs}{j:Nat}{o:Od}{u:Ws}
theorem Fy(hr:aU l=true)(hc:l[j]?=some o)(g2:u=fD l acc sym j)(h1:o.acc=acc)(h2:o.sym=sym)(hb:o.au=true)(hub:-(64*1099511627776)≤u.1∧u.1≤64*1099511627776∧-(64*1099511627776)≤u.2∧u.2≤64*1099511627776):(u.1+o.al-o.done,u.2)=fD l acc sym (j+1):=by
 have hm:=qj (kX hr hc)
 rw[←vw hr hc g2 ⟨h1,h2⟩]
 simp only[ec,dp,hb,if_true]
 rw[aq (by omega) (by omega),aq (by omega) (by omega)]
 simp;omega
theorem M6(hr:aU l=true)(hc:l[j]?=some o)(g2:u=fD l acc sym j)(h1:o.acc=acc)(h2:o.sym=sym)(hb:o.au=false)(hub:-(64*1099511627776)≤u.1∧u.1≤64*1099511627776∧-(64*1099511627776)≤u.2∧u.2≤64*1099511627776):(u.1,u.2+o.al-o.done)=fD l acc sym (j+1):=by
 have hm:=qj (kX hr hc)
 rw[←vw hr hc g2 ⟨h1,h2⟩]
 simp only[ec,dp,hb,if_false,Bool.false_eq_true]
 rw[aq (by omega) (by omega),aq (by omega) (by omega)]
 simp;omega
end
theorem VN(n:Int):ae E 181 [i64 n] (fun r t=>r=i64 (ej n)∧t=[]):=by
 refine ae.av (n:=8) (rs:=[.tmp 2]) Tryz.func181 rfl Tryz.ntmps181 rfl ?_
 repeat'(first
 |refine aa.ab fun K hK=>?_
 |(refine aa.region ?_;simp only[go_sem])
 |(refine hK _ ?_;clear hK K)
 |refine aa.cond rfl (fun c=>?_) (fun c=>?_)<;>(try simp only[dD] at c)
 |refine aa.skip ?_
 |(
  refine aa.ret ?_
  refine az.is ?_;simp only[go_sem,aB,aE,aF,aA,aC,aD]<;>(simp_all[ej]<;>omega)))
theorem Jz(l:Int)(g f:Bool)(b n p:Int):ae E 124 [.agg [i64 l,bl g,bl f,i64 b],i64 n,i64 p] (fun r t=>r=i64 (gf l g f b n p)∧t=[]):=by
 have b1:=tQ n
 have b2:=tQ l
 have b3:=tQ p
 have hw:IntKind.i64.wrap (ej n-ej l)=ej n-ej l:=aq (by omega) (by omega)
 refine ae.av (n:=31) (rs:=[.tmp 6]) Tryz.func124 rfl Tryz.ntmps124 rfl ?_
 repeat'(first
 |refine aa.ab fun K hK=>?_
 |(refine aa.region ?_;simp only[go_sem,hw])
 |(refine aa.here 5 12 17 rfl ?_;refine aa.bc [0,2,3,1,4,5,6,7,9,10,13,8,11,12,14,15,16] [] (by kernel_rfl) (by kernel_rfl) rfl ?_;simp only[go_sem,hw])
 |(refine hK _ ?_;clear hK K)
 |refine aa.cond rfl (fun c=>?_) (fun c=>?_)<;>first|exact Bool.noConfusion c|(try simp only[dD] at c)
 |refine aa.skip ?_
 |(refine ah.one (VN _) (by kernel_rfl) rfl ?_;simp only[go_sem,hw])
 |(refine aH.split (fun h=>?_) (fun h=>?_)<;>simp only[h,go_sem,hw]<;>(try simp only[dD] at h))
 |(
  refine aa.ret ?_
  refine az.is ?_;simp only[go_sem,aB,aE,aF,aA,aC,aD]<;>(first|(unfold gf;rw[if_pos (by assumption)];done)|(unfold gf;rw[if_neg (by omega),if_pos (by assumption)];done)|(unfold gf;rw[if_neg (by omega),if_neg (by simp[*]),if_pos (by omega)];done)|(unfold gf;rw[if_neg (by omega),if_neg (by simp[*]),if_neg (by omega),if_pos (by assumption)];done)|(unfold gf;rw[if_neg (by omega),if_neg (by simp[*]),if_neg (by omega),if_neg (by simp[*])];done))))
theorem AR(a b:Int):ae E 240 [i64 a,i64 b] (fun r t=>r= .ax [i64 (gv a b).1,bl (gv a b).2]∧t=[]):=by
 refine ae.av (n:=37) (rs:=[.tmp 4,.tmp 5]) Tryz.func240 rfl Tryz.ntmps240 rfl ?_
 repeat'(first
 |refine aa.ab fun K hK=>?_
 |(refine aa.region ?_;simp only[go_sem])
 |(refine hK _ ?_;clear hK K)
 |refine aa.cond rfl (fun c=>?_) (fun c=>?_)<;>first|exact Bool.noConfusion c|(try simp only[dD] at c)
 |refine aa.skip ?_
 |(refine ah.one (mc _) (by kernel_rfl) rfl ?_;simp only[go_sem])
 |(refine aH.bY (fun h=>?_) (fun h=>?_)<;>simp only[h,go_sem]<;>(try simp only[dD] at h))
 |(refine aH.split (fun h=>?_) (fun h=>?_)<;>simp only[h,go_sem]<;>(try simp only[dD] at h))
 |(
  refine aa.ret ?_
  refine az.is ?_;simp only[go_sem,aB,aE,aF,aA,aC,aD]<;>(first|(exfalso;omega)|(rw[BB (.inl (by assumption))];(exact⟨rfl,rfl⟩))|(rw[BB (.inr (by assumption))];(exact⟨rfl,rfl⟩))|(have ha:=ew.1 (show aS a=true by assumption);have hb:=ew.1 (show aS b=true by assumption);(try clear hK K);(rw[vc (by assumption) (by assumption) (by omega),aq (by omega) (by omega)];(exact⟨rfl,rfl⟩)))|(have ha:=ew.1 (show aS a=true by assumption);have hb:=ew.1 (show aS b=true by assumption);(try clear hK K);have e1:=aq (x:=4611686018427387904-b) (by omega) (by omega);simp only[e1] at *;first|(rw[Ay (by omega)];(exact⟨rfl,rfl⟩))|(rw[vc (by assumption) (by assumption) (by omega),aq (by omega) (by omega)];(exact⟨rfl,rfl⟩)))|(have ha:=ew.1 (show aS a=true by assumption);have hb:=ew.1 (show aS b=true by assumption);(try clear hK K);have e2:=aq (x:=-4611686018427387904-b) (by omega) (by omega);simp only[e2] at *;first|(rw[Ay (by omega)];(exact⟨rfl,rfl⟩))|(rw[vc (by assumption) (by assumption) (by omega),aq (by omega) (by omega)];(exact⟨rfl,rfl⟩))))))
theorem KL(n:Int):ae E 216 [i64 n] (fun r t=>r=bl (bJ n)∧t=[]):=by
 refine ae.av (n:=9) (rs:=[.tmp 2]) Tryz.func216 rfl Tryz.ntmps216 rfl ?_
 repeat'(first
 |refine aa.ab fun K hK=>?_
 |(refine aa.region ?_;simp only[go_sem])
 |(refine hK _ ?_;clear hK K)
 |(refine aH.split (fun h=>?_) (fun h=>?_)<;>simp only[h,go_sem]<;>(try simp only[dD] at h))
 |(
  refine aa.ret ?_
  refine az.is ?_;simp only[go_sem,aB,aE,aF,aA,aC,aD]<;>(simp_all[bJ]<;>omega)))
theorem wc(x:Lm)(h1:x.acc.length≤9223372036854775807)(h2:x.sym.length≤9223372036854775807):ae E 179 [bd x] (fun r t=>r=bl (dW x)∧t=[]):=by
 refine ae.av (n:=45) (rs:=[.tmp 2]) Tryz.func179 rfl Tryz.ntmps179 rfl ?_
 repeat'(first
 |refine aa.ab fun K hK=>?_
 |(refine aa.region ?_;simp only[go_sem])
 |(refine hK _ ?_;clear hK K)
 |(refine ah.one (KL _) (by kernel_rfl) rfl ?_;simp only[go_sem])
 |(refine aH.split (fun h=>?_) (fun h=>?_)<;>simp only[h,go_sem]<;>(try simp only[dD] at h))
 |(
  refine aa.ret ?_
  refine az.is ?_;simp only[go_sem,aB,aE,aF,aA,aC,aD]<;>(first|(simp only[uU];simp[*];done)|(simp only[uU];simp_all;done)|(simp only[uU];simp_all;omega))))
theorem ug(x y:Lm):ae E 180 [bd x,bd y] (fun r t=>r=bl (decide (bw x y<0))∧t=[]):=by
 refine ae.av (n:=24) (rs:=[.tmp 4]) Tryz.func180 rfl Tryz.ntmps180 rfl ?_
 repeat'(first
 |refine aa.ab fun K hK=>?_
 |(refine aa.region ?_;simp only[go_sem,Go.Proofs.bytesLess_eq])
 |(refine hK _ ?_;clear hK K)
 |(refine aH.bY (fun h=>?_) (fun h=>?_)<;>simp only[h,go_sem,Go.Proofs.bytesLess_eq]<;>(try simp only[dD] at h))
 |(refine aH.split (fun h=>?_) (fun h=>?_)<;>simp only[h,go_sem,Go.Proofs.bytesLess_eq]<;>(try simp only[dD] at h))
 |(
  refine aa.ret ?_
  refine az.is ?_;simp only[go_sem,aB,aE,aF,aA,aC,aD]<;>(first|exact Ep (by assumption) (by assumption)|(rw[AB];simp[*];done))))
theorem sD(l:List Lm)(hl:l.length≤9223372036854775807)(hs:∀x∈l,x.acc.length≤9223372036854775807∧x.sym.length≤9223372036854775807):ae E 121 [bL l] (fun r t=>r=bl (bX l)∧t=[]):=by
 refine ae.av (n:=36) (rs:=[.tmp 2]) Tryz.func121 rfl Tryz.ntmps121 rfl ?_
 repeat'(first
 |refine aa.ab fun K hK=>?_
 |(
  refine aa.here 6 13 23 rfl ?_
  obtain⟨x,hx⟩:∃x,l[i]?=some x:=⟨_,List.getElem?_eq_getElem (by omega)⟩
  refine aa.bc [0,1,2,3,4,5,6,7,8,9,10,11,12,13,14,15,16,17,18,19,20,21,22] [] (by kernel_rfl) (by kernel_rfl) rfl ?_;simp only[go_sem])
 |(refine aa.region ?_;simp only[go_sem])
 |(refine hK _ ?_;clear hK K)
 |refine aa.block ?_
 |refine aa.cond rfl (fun c=>?_) (fun c=>?_)<;>first|exact Bool.noConfusion c|(try simp only[dD] at c)
 |refine aa.skip ?_
 |(refine aa.exit ?_;simp only[go_sem])
 |(refine ah.one (wc x (hs x (List.mem_of_getElem? hx)).1 (hs x (List.mem_of_getElem? hx)).2) (by kernel_rfl) rfl ?_;simp only[go_sem])
 |(refine ah.one (ug b x) (by kernel_rfl) rfl ?_;simp only[go_sem])
 |(refine aH.split (fun h=>?_) (fun h=>?_)<;>simp only[h,go_sem]<;>(try simp only[dD] at h))
 |(refine aG.bA (by assumption) ?_;(try simp only[go_sem]))
 |((first|refine aG.nth ?_ (fun b hb=>?_)|with_reducible refine And.intro ?_ ?_);(focus(first|(rw[aq (by omega) (by omega)];omega)|(simp;done)));(try simp only[hb,go_sem]))
 |(
  refine aa.here 4 7 4 rfl ?_
  refine aa.cr (ι:=Nat) [2,7,8,9,10,11,12,13,14,15,16,17,18,19,20,21,22,23,24,25,26,27,28,29,30,31,32,33,34,35] (fun(i:Nat)=>[(3,i64 i)]) (fun(i:Nat)=>i≤l.length∧l.length≤32∧∀k,k<i→jA l k=true) (fun(i:Nat)=>l.length-i) (0) ?_ ?_ ?_
  ·(try simp only[go_sem]);(repeat'(first|fail));done
  ·exact⟨by omega,by omega,fun k hk=>by omega⟩
  rintro i ⟨h1,h2,h3⟩
  simp only[go_sem])
 |(
  refine⟨i+1,?_,?_,?_⟩
  ·(try simp only[go_sem]);(try rw[aq (by omega) (by omega)]);(repeat'(exact .inr rfl));done
  ·exact⟨by omega,h2,re h3 (by first|exact Bn hx (by omega) (by assumption)|(rw[lh (by omega) (by omega)] at hb;exact wj hx hb (by assumption) (by(assumption))))⟩
  ·(try simp only[]);omega)
 |(
  refine aa.ret ?_
  refine az.is ?_;simp only[go_sem,aB,aE,aF,aA,aC,aD]<;>(first|(rw[pX hx (Ap hx (by assumption))];done)|(rw[lh (by omega) (by omega)] at hb;rw[pX hx (A1 hx (by omega) hb (by(omega)))];done)|(rw[Bx (by omega)];done)|(rw[yT h2 (by omega) h3];done)))
 |refine aa.fin (by assumption) ?_)
theorem LJ(l:List Lm)(a s:Bs)(hl:l.length≤9223372036854775807)(hs:∀x∈l,x.acc.length≤9223372036854775807∧x.sym.length≤9223372036854775807):ae E 239 [bL l,str a,str s] (fun r t=>r= .ax [bd (gB l a s).1,bl (gB l a s).2]∧t=[]):=by
 refine ae.av (n:=40) (rs:=[.cell 6 63,.tmp 7]) Tryz.func239 rfl Tryz.ntmps239 rfl ?_
 repeat'(first
 |refine aa.ab fun K hK=>?_
 |(
  refine aa.here 4 15 20 rfl ?_
  obtain⟨x,hx⟩:∃x,l[i]?=some x:=⟨_,List.getElem?_eq_getElem (by omega)⟩
  refine aa.region ?_;simp only[go_sem])
 |(refine aa.region ?_;simp only[go_sem])
 |(refine hK _ ?_;clear hK K)
 |refine aa.block ?_
 |refine aa.cond rfl (fun c=>?_) (fun c=>?_)<;>first|exact Bool.noConfusion c|(try simp only[dD] at c)
 |refine aa.skip ?_
 |(refine aa.exit ?_;simp only[go_sem])
 |(refine ah.one (sD l hl hs) (by kernel_rfl) rfl ?_;simp only[go_sem])
 |(refine aH.split (fun h=>?_) (fun h=>?_)<;>simp only[h,go_sem]<;>(try simp only[dD] at h))
 |(refine aG.bA (by assumption) ?_;(try simp only[go_sem]))
 |((with_reducible refine And.intro ?_ ?_);(focus((simp;done)));(try simp only[hb,go_sem]))
 |(
  refine aa.here 2 9 4 rfl ?_
  refine aa.b6 (ι:=Nat) [7,9,10,11,12,13,14,15,16,17,18,19,20,21,22,23,24,25,26,27,28,29,30,31,32,33,34,35,36,37,38] (fun(i:Nat)=>[(8,i64 i)]) (fun(i:Nat)=>[some [.agg [str [],str [],i64 0,i64 0,i64 0,i64 0]]]) (fun(i:Nat)=>[]) (fun(i:Nat)=>i≤l.length∧∀k y,k<i→l[k]?=some y→¬(y.acc=a∧y.sym=s∧bX l=true)) (fun(i:Nat)=>l.length-i) (0) ?_ ?_ ?_
  ·(try simp only[go_sem]);(repeat'(trivial));done
  ·exact⟨by omega,fun k y hk=>by omega⟩
  rintro i ⟨h1,h3⟩
  simp only[go_sem])
 |(
  refine⟨i+1,?_,?_,?_⟩
  ·(try simp only[go_sem]);(try rw[aq (by omega) (by omega)]);(repeat'(first|refine And.intro ?_ ?_|exact .inr rfl|trivial));done
  ·exact⟨by omega,KM h3 hx (by(try clear hK);simp_all)⟩
  ·(try simp only[]);omega)
 |(
  refine aa.ret ?_
  refine az.is ?_;simp only[go_sem,aB,aE,aF,aA,aC,aD]<;>(first|(rw[Vg (by omega) h3];simp;done)|(have hr:bX l=true:=(by assumption);rw[BR hr hx (fun k y hk hy e=>h3 k y hk hy ⟨e.1,e.2,hr⟩) (by(try clear hK);simp_all) (by(try clear hK);simp_all)];(try clear hK);simp_all;done)))
 |refine aa.fin (by assumption) ?_)
theorem L8(l:List Lm)(o:Od)(w:Ws)(hl:l.length≤9223372036854775807)(hs:∀x∈l,x.acc.length≤9223372036854775807∧x.sym.length≤9223372036854775807):ae E 213 [bL l,aW o,wV w] (fun r t=>r=i64 (mz l o w)∧t=[]):=by
 refine ae.av (n:=79) (rs:=[.tmp 6]) Tryz.func213 rfl Tryz.ntmps213 rfl ?_
 repeat'(first
 |refine aa.ab fun K hK=>?_
 |(refine aa.region ?_;simp only[go_sem])
 |(refine hK _ ?_;clear hK K)
 |refine aa.cond rfl (fun c=>?_) (fun c=>?_)<;>first|exact Bool.noConfusion c|(try simp only[dD] at c)
 |refine aa.skip ?_
 |(refine ah.one (LJ l o.acc o.sym hl hs) (by kernel_rfl) rfl ?_;simp only[go_sem])
 |(refine ah.one (ym o.al o.aw) (by kernel_rfl) rfl ?_;simp only[go_sem])
 |(refine ah.one (AR w.1 o.al) (by kernel_rfl) rfl ?_;simp only[go_sem])
 |(refine ah.one (AR w.2 o.al) (by kernel_rfl) rfl ?_;simp only[go_sem])
 |(refine aH.split (fun h=>?_) (fun h=>?_)<;>simp only[h,go_sem]<;>(try simp only[dD] at h))
 |(
  refine aa.ret ?_
  refine az.is ?_;simp only[go_sem,aB,aE,aF,aA,aC,aD]<;>((unfold mz;simp[*];done))))
theorem Ut(p q:List Lm)(hl:p.length≤9223372036854775807):ae E 93 [bL p,bL q] (fun r t=>r=bl (decide (p=q))∧t=[]):=by
 refine ae.av (n:=26) (rs:=[.tmp 4]) Tryz.func93 rfl Tryz.ntmps93 rfl ?_
 repeat'(first
 |refine aa.ab fun K hK=>?_
 |(
  refine aa.here 6 17 9 rfl ?_
  obtain⟨x,hx⟩:∃x,p[i]?=some x:=⟨_,List.getElem?_eq_getElem (by omega)⟩
  obtain⟨y,hy⟩:∃y,q[i]?=some y:=⟨_,List.getElem?_eq_getElem (by omega)⟩
  refine aa.bc [0,1,2,3,4,5,6,7,8] [] (by kernel_rfl) (by kernel_rfl) rfl ?_;simp only[go_sem])
 |(refine aa.region ?_;simp only[go_sem])
 |(refine hK _ ?_;clear hK K)
 |refine aa.block ?_
 |refine aa.cond rfl (fun c=>?_) (fun c=>?_)<;>(try simp only[dD] at c)
 |refine aa.skip ?_
 |(refine aa.exit ?_;simp only[go_sem])
 |(refine aG.bA (by assumption) ?_;(try simp only[go_sem]))
 |((with_reducible refine And.intro ?_ ?_);(focus((simp;done)));(try simp only[hb,go_sem]))
 |(
  refine aa.here 4 11 4 rfl ?_
  refine aa.cr (ι:=Nat) [4,11,12,13,14,15,16,17,18,19,20,21,22,23,24,25] (fun(i:Nat)=>[(5,i64 i)]) (fun(i:Nat)=>i≤p.length∧p.length=q.length∧p.take i=q.take i) (fun(i:Nat)=>p.length-i) (0) ?_ ?_ ?_
  ·(try simp only[go_sem]);(repeat'(first|fail));done
  ·exact⟨by omega,by omega,by simp⟩
  rintro i ⟨h1,h2,h3⟩
  simp only[go_sem])
 |(
  refine⟨i+1,?_,?_,?_⟩
  ·(try simp only[go_sem]);(try rw[aq (by omega) (by omega)]);(repeat'(exact .inr rfl));done
  ·exact⟨by omega,by omega,vV hx hy (by simpa using JE (by assumption)) h3⟩
  ·(try simp only[]);omega)
 |(
  refine aa.ret ?_
  refine az.is ?_;simp only[go_sem,aB,aE,aF,aA,aC,aD]<;>(first|(rw[Dk (by omega)];done)|(rw[TM hx hy (Xd (by assumption))];done)|(rw[TD h2 (by omega) h3];done)))
 |refine aa.fin (by assumption) ?_)
theorem M9(l:List Lm):ae E 43 [bL l] (fun r t=>r=bl (decide (l.length≤40)&&l.all (fun x:Lm=>decide (x.acc.length≤100)&&decide (x.sym.length≤100)))∧t=[]):=by
 refine ae.av (n:=29) (rs:=[.tmp 2]) Tryz.func43 rfl Tryz.ntmps43 rfl ?_
 repeat'(first
 |refine aa.ab fun K hK=>?_
 |(refine aa.region ?_;simp only[go_sem])
 |(refine hK _ ?_;clear hK K)
 |refine aa.block ?_
 |refine aa.cond rfl (fun c=>?_) (fun c=>?_)<;>first|exact Bool.noConfusion c|(try simp only[dD] at c)
 |refine aa.skip ?_
 |(refine aa.exit ?_;simp only[go_sem])
 |(refine aH.bY (fun h=>?_) (fun h=>?_)<;>simp only[h,go_sem]<;>(try simp only[dD] at h))
 |(refine aG.bA (by assumption) ?_;(try simp only[go_sem]))
 |((first|refine aG.nth ?_ (fun b hb=>?_)|with_reducible refine And.intro ?_ ?_);(focus(first|omega|(simp;done)));(try simp only[hb,go_sem]))
 |(
  refine aa.here 4 7 4 rfl ?_
  refine aa.cr (ι:=Nat) [2,7,8,9,10,11,12,13,14,15,16,17,18,19,20,21,22,23,24,25,26,27,28] (fun(i:Nat)=>[(3,i64 i)]) (fun(i:Nat)=>i≤l.length∧l.length≤40∧(l.take i).all (fun x:Lm=>decide (x.acc.length≤100)&&decide (x.sym.length≤100))=true) (fun(i:Nat)=>l.length-i) (0) ?_ ?_ ?_
  ·(try simp only[go_sem]);(repeat'(first|fail));done
  ·exact⟨Nat.zero_le _,by omega,by simp⟩
  rintro i ⟨h1,h2,h3⟩
  simp only[go_sem])
 |(
  refine⟨i+1,?_,?_,?_⟩
  ·(try simp only[go_sem]);(try rw[aq (by omega) (by omega)]);(repeat'(exact .inr rfl));done
  ·exact⟨by omega,h2,nM hb h3 (by simp;omega)⟩
  ·(try simp only[]);omega)
 |(
  refine aa.ret ?_
  refine az.is ?_;simp only[go_sem,aB,aE,aF,aA,aC,aD]<;>(first
  |(rw[decide_eq_false (by omega)];rfl)
  |(rw[yq hb (by simp;omega),Bool.and_false];done)
  |(rw[List.take_of_length_le (by omega)] at h3;rw[h3,decide_eq_true (by omega)];rfl)))
 |refine aa.fin (by assumption) ?_)
theorem Sm(l:List Od)(acc sym:Bs)(hl:l.length≤9223372036854775807):ae E 125 [aR l,str acc,str sym] (fun r t=>r=wV (ke l acc sym)∧t=[]):=by
 refine ae.av (n:=55) (rs:=[.cell 6 45]) Tryz.func125 rfl Tryz.ntmps125 rfl ?_
 repeat'(first
 |refine aa.ab fun K hK=>?_
 |(
  refine aa.here 7 20 6 rfl ?_
  obtain⟨o,hc⟩:∃o,l[j]?=some o:=⟨_,List.getElem?_eq_getElem (by omega)⟩
  have hm:=qj (kX hr hc)
  have hwp1:IntKind.i64.wrap (IntKind.i64.wrap (u.1+o.al)-o.done)=u.1+o.al-o.done:=by rw[aq (x:=u.1+o.al) (by omega) (by omega),aq (by omega) (by omega)]
  have hwp2:IntKind.i64.wrap (IntKind.i64.wrap (u.2+o.al)-o.done)=u.2+o.al-o.done:=by rw[aq (x:=u.2+o.al) (by omega) (by omega),aq (by omega) (by omega)]
  refine aa.region ?_;simp only[go_sem])
 |(refine aa.region ?_;simp only[go_sem])
 |(refine hK _ ?_;clear hK K)
 |refine aa.block ?_
 |refine aa.cond rfl (fun c=>?_) (fun c=>?_)<;>first|exact Bool.noConfusion c|(try simp only[dD] at c)
 |refine aa.skip ?_
 |(refine aa.exit ?_;simp only[go_sem])
 |(refine ah.one (nW l hl) (by kernel_rfl) rfl ?_;simp only[go_sem])
 |(refine aH.split (fun h=>?_) (fun h=>?_)<;>simp only[h,go_sem]<;>(try simp only[dD] at h))
 |(refine aG.bA (by assumption) ?_;(try simp only[go_sem]))
 |((with_reducible refine And.intro ?_ ?_);(focus((simp;done)));(try simp only[hb,go_sem]))
 |(
  refine aa.here 5 14 4 rfl ?_
  refine aa.b6 (ι:=Nat×Ws) [9,14,15,16,17,18,19,20,21,22,23,24,25,26,27,28,29,30,31,32,33,34,35,36,37,38,39,40,41,42,43,44,45,46,47,48,49,50,51,52,53] (fun⟨j,u⟩=>[(8,i64 j)]) (fun⟨j,u⟩=>[some [.agg [i64 0,i64 0]],some [.agg [i64 u.1,i64 u.2]]]) (fun⟨j,u⟩=>[]) (fun⟨j,u⟩=>j≤l.length∧u=fD l acc sym j) (fun⟨j,u⟩=>l.length-j) ((0,((0,0):Ws))) ?_ ?_ ?_
  ·(try simp only[go_sem]);(repeat'(trivial));done
  ·exact⟨Nat.zero_le _,rfl⟩
  rintro⟨j,u⟩ ⟨g1,g2⟩
  simp only[go_sem]
  have hr:aU l=true:=by assumption
  have hub:=Bp (acc:=acc) (sym:=sym) (i:=j) hr
  rw[←g2] at hub
  unfold cZ at hub)
 |(
  first
  |(refine⟨(j+1,u),?_,⟨by show j+1≤l.length;omega,xJ hc g2 (by first|exact uP (by assumption)|exact vm (by assumption))⟩,by show l.length-(j+1)<l.length-j;omega⟩
    (try simp only[go_sem]);(try simp only[hwp1,hwp2]);(try rw[aq (by omega) (by omega)]);(repeat'(first|refine And.intro ?_ ?_|exact .inr rfl|trivial|exact .inr (aM rfl)));done)
  |(refine⟨(j+1,(u.1+o.al-o.done,u.2)),?_,⟨by show j+1≤l.length;omega,Fy hr hc g2 (by assumption) (by assumption) (by assumption) hub⟩,by show l.length-(j+1)<l.length-j;omega⟩
    (try simp only[go_sem]);(try simp only[hwp1,hwp2]);(try rw[aq (by omega) (by omega)]);(repeat'(first|refine And.intro ?_ ?_|exact .inr rfl|trivial|(simp;done)));done)
  |(refine⟨(j+1,(u.1,u.2+o.al-o.done)),?_,⟨by show j+1≤l.length;omega,M6 hr hc g2 (by assumption) (by assumption) (by assumption) hub⟩,by show l.length-(j+1)<l.length-j;omega⟩
    (try simp only[go_sem]);(try simp only[hwp1,hwp2]);(try rw[aq (by omega) (by omega)]);(repeat'(first|refine And.intro ?_ ?_|exact .inr rfl|trivial|(simp;done)));done))
 |(
  refine aa.ret ?_
  refine az.is ?_;simp only[go_sem,aB,aE,aF,aA,aC,aD]<;>(first
  |(rw[←AE hr (by omega) g2];simp;done)
  |(rw[wa (by assumption)];simp;done)))
 |refine aa.fin (by assumption) ?_)
end Go.Proofs.YtajeeghgiilhiaaGreat
end
section
namespace Go.Bk
open Go Go.Abs
structure Ac where
 kind:Int
 dZ:Int
 ord:Od
 id:Bs
 ex:Ex
 more:Int
 on:Bool
 lim:Lm
def B7(a:Ac):Prop:=0≤a.kind∧a.kind<256∧0≤a.more∧a.more<256
def sU(l:List Od):Bool:=decide (l.length≤80)&&l.all (fun o:Od=>decide (o.id.length≤100)&&decide (o.acc.length≤100)&&decide (o.sym.length≤100))
def yu(l:List Lm):Bool:=decide (l.length≤40)&&l.all (fun x:Lm=>decide (x.acc.length≤100)&&decide (x.sym.length≤100))
def oF(a:Ac):Bool:=decide (a.id.length≤100)&&sU [a.ord]&&decide (a.ex.ord.length≤300)&&yu [a.lim]
def lu(now more:Int):Int:=if now<0∨4611686018427386904<now then now else now+more
def bj(g:Gt)(a:Ac):Gt×Int×Int:=
 if a.kind%8=0 then eC g a.dZ a.ord
 else if a.kind%8=1 then eh g a.dZ a.id a.ord.id a.ord.al a.ord.aw
 else if a.kind%8=2 then cj g a.dZ a.ex
 else if a.kind%8=3 then((eI g (lu g.now a.more)).1,0,(eI g (lu g.now a.more)).2)
 else if a.kind%8=4 then((kP g a.on).1,0,(kP g a.on).2)
 else if a.kind%8=5 then((iw g a.dZ a.on).1,0,(iw g a.dZ a.on).2)
 else if a.kind%8=6 then((gH g a.dZ).1,0,(gH g a.dZ).2)
 else((eT g a.lim).1,0,(eT g a.lim).2)
theorem yn{g:Gt}{a:Ac}(h:a.kind%8=0):bj g a=eC g a.dZ a.ord:=if_pos h
theorem do_1{g:Gt}{a:Ac}(h:a.kind%8=1):bj g a=eh g a.dZ a.id a.ord.id a.ord.al a.ord.aw:=by unfold bj;rw[h];rfl
theorem w7{g:Gt}{a:Ac}(h:a.kind%8=2):bj g a=cj g a.dZ a.ex:=by unfold bj;rw[h];rfl
theorem xx{g:Gt}{a:Ac}(h:a.kind%8=3):bj g a=((eI g (lu g.now a.more)).1,0,(eI g (lu g.now a.more)).2):=by unfold bj;rw[h];rfl
theorem zZ{g:Gt}{a:Ac}(h:a.kind%8=4):bj g a=((kP g a.on).1,0,(kP g a.on).2):=by unfold bj;rw[h];rfl
theorem Ab{g:Gt}{a:Ac}(h:a.kind%8=5):bj g a=((iw g a.dZ a.on).1,0,(iw g a.dZ a.on).2):=by unfold bj;rw[h];rfl
theorem yW{g:Gt}{a:Ac}(h:a.kind%8=6):bj g a=((gH g a.dZ).1,0,(gH g a.dZ).2):=by unfold bj;rw[h];rfl
theorem B6{g:Gt}{a:Ac}(h:a.kind%8=7):bj g a=((eT g a.lim).1,0,(eT g a.lim).2):=by unfold bj;rw[h];rfl
theorem tG{g:Gt}{a:Ac}(h:bf g=true):bf (bj g a).1=true:=by
 unfold bj
 split;exact C4 h
 split;exact Xo h
 split;exact SJ h
 split;exact FF h
 split;exact OI h
 split;exact TN h
 split;exact Kz h
 exact BW h
theorem mF{g:Gt}(h:bf g=true):bO g:=by
 obtain⟨h1,h2,h3,h4,h5,h6⟩:=l8 h
 refine⟨by omega,by have:=(jC.1 h3).1;omega,fun v hv=>?_⟩
 obtain⟨f1,f2,f3,f4,f5,f6⟩:=iB (h6 v hv)
 obtain⟨⟨a1,a2,a3,_⟩,_⟩:=eO.1 f1
 exact⟨by omega,by omega,by omega,by omega⟩
section
variable{g:Gt}{k:Nat}{o:Od}{v:Vn}
end
end Go.Bk
end
section
namespace Go.Proofs.YtajeeghgiilhiaaGreat
open Go Go.Abs Go.RowKit Go.Bk
abbrev eJ(a:Ac):AV:= .agg [.v (.int .u8 a.kind),i64 a.dZ,str a.ord.id,str a.ord.acc,str a.ord.sym,bl a.ord.au,i64 a.ord.al,i64 a.ord.aw,i64 a.ord.done,bl a.ord.bg,str a.id,str a.ex.id,str a.ex.ref,str a.ex.ord,str a.ex.acc,str a.ex.sym,i64 a.ex.kind,bl a.ex.au,i64 a.ex.al,i64 a.ex.aw,i64 a.ex.time,.v (.int .u8 a.more),bl a.on,str a.lim.acc,str a.lim.sym,i64 a.lim.kv,i64 a.lim.short,i64 a.lim.al,i64 a.lim.value]
abbrev Aj(l:List Ac):AV:= .sl none 29 (l.map eJ)
theorem LO(l:List Od):ae E 32 [aR l] (fun r t=>r=bl (sU l)∧t=[]):=Ul l
theorem Ah(l:List Lm):ae E 43 [bL l] (fun r t=>r=bl (yu l)∧t=[]):=M9 l
theorem zE(g:Gt)(x:Lm)(hg:bO g):ae E 28 [aL g,bd x] (fun r t=>r= .ax [aL (eT g x).1,i64 (eT g x).2]∧t=[]):=zU g x hg (JS g.aP x hg.2.1)
theorem DC(a:Ac):ae E 33 [eJ a] (fun r t=>r=bl (oF a)∧t=[]):=by
 refine ae.av (n:=26) (rs:=[.tmp 2]) Tryz.func33 rfl Tryz.ntmps33 rfl ?_
 repeat'(first
 |refine aa.ab fun K hK=>?_
 |(refine aa.region ?_;simp only[go_sem])
 |(refine hK _ ?_;clear hK K)
 |(refine ah.one (LO [a.ord]) (by kernel_rfl) rfl ?_;simp only[go_sem])
 |(refine ah.one (Ah [a.lim]) (by kernel_rfl) rfl ?_;simp only[go_sem])
 |(refine aH.split (fun h=>?_) (fun h=>?_)<;>simp only[h,go_sem]<;>(try simp only[dD] at h))
 |(
  refine aa.ret ?_
  refine az.is ?_;simp only[go_sem,aB,aE,aF,aA,aC,aD]<;>(first|(unfold oF;rw[decide_eq_true (p:=a.id.length≤100) (by omega),‹sU [a.ord]=true›,decide_eq_true (p:=a.ex.ord.length≤300) (by omega)];rfl)|(unfold oF;rw[decide_eq_false (p:=a.ex.ord.length≤300) (by omega),Bool.and_false];rfl)|(unfold oF;rw[decide_eq_false (p:=a.id.length≤100) (by omega)];rfl)|(simp_all[oF];done))))
theorem x8(now more:Int)(hm:0≤more∧more<256):ae E 87 [i64 now,.v (.int .u8 more)] (fun r t=>r=i64 (lu now more)∧t=[]):=by
 refine ae.av (n:=16) (rs:=[.tmp 4]) Tryz.func87 rfl Tryz.ntmps87 rfl ?_
 repeat'(first
 |refine aa.ab fun K hK=>?_
 |(refine aa.region ?_;simp only[go_sem])
 |(refine hK _ ?_;clear hK K)
 |refine aa.cond rfl (fun c=>?_) (fun c=>?_)<;>first|exact Bool.noConfusion c|(try simp only[dD] at c)
 |refine aa.skip ?_
 |(refine aH.bY (fun h=>?_) (fun h=>?_)<;>simp only[h,go_sem]<;>(try simp only[dD] at h))
 |(
  refine aa.ret ?_
  refine az.is ?_;simp only[go_sem,aB,aE,aF,aA,aC,aD]<;>((unfold lu);(first|(rw[if_pos (by omega)];done)|(rw[if_neg (by omega),aq (x:=more) (by omega) (by omega),aq (by omega) (by omega)];done)))))
theorem Ec(g:Gt)(a:Ac)(hg:bO g)(hk:0≤a.kind)(hm:0≤a.more∧a.more<256)(hj:a.kind%8=0):ae E 34 [aL g,eJ a] (fun r t=>r= .ax [aL (bj g a).1,i64 (bj g a).2.1,i64 (bj g a).2.2]∧t=[]):=by
 have hw:a.kind.tmod 8=0:=(Int.tmod_eq_emod_of_nonneg hk).trans hj
 refine ae.av (n:=105) (rs:=[.cell 4 58,.tmp 5,.tmp 6]) Tryz.func34 rfl Tryz.ntmps34 rfl ?_
 repeat'(first
 |refine aa.ab fun K hK=>?_
 |(refine aa.region ?_;simp only[go_sem,hw])
 |(refine hK _ ?_;clear hK K)
 |refine aa.block ?_
 |refine aa.cond rfl (fun c=>?_) (fun c=>?_)<;>first|exact Bool.noConfusion c|(try simp only[dD] at c)
 |(refine ah.one (tL g a.dZ a.ord hg) (by kernel_rfl) rfl ?_;simp only[go_sem,hw])
 |(
  refine aa.ret ?_
  refine az.is ?_;simp only[go_sem,aB,aE,aF,aA,aC,aD]<;>(simp[yn hj];done)))
theorem RW(g:Gt)(a:Ac)(hg:bO g)(hk:0≤a.kind)(hm:0≤a.more∧a.more<256)(hj:a.kind%8=1):ae E 34 [aL g,eJ a] (fun r t=>r= .ax [aL (bj g a).1,i64 (bj g a).2.1,i64 (bj g a).2.2]∧t=[]):=by
 have hw:a.kind.tmod 8=1:=(Int.tmod_eq_emod_of_nonneg hk).trans hj
 refine ae.av (n:=105) (rs:=[.cell 4 58,.tmp 5,.tmp 6]) Tryz.func34 rfl Tryz.ntmps34 rfl ?_
 repeat'(first
 |refine aa.ab fun K hK=>?_
 |(refine aa.region ?_;simp only[go_sem,hw])
 |(refine hK _ ?_;clear hK K)
 |refine aa.block ?_
 |refine aa.cond rfl (fun c=>?_) (fun c=>?_)<;>first|exact Bool.noConfusion c|(try simp only[dD] at c)
 |(refine ah.one (VL g a.dZ a.id a.ord.id a.ord.al a.ord.aw hg) (by kernel_rfl) rfl ?_;simp only[go_sem,hw])
 |(
  refine aa.ret ?_
  refine az.is ?_;simp only[go_sem,aB,aE,aF,aA,aC,aD]<;>(simp[do_1 hj];done)))
theorem KY(g:Gt)(a:Ac)(hg:bO g)(hk:0≤a.kind)(hm:0≤a.more∧a.more<256)(hj:a.kind%8=2):ae E 34 [aL g,eJ a] (fun r t=>r= .ax [aL (bj g a).1,i64 (bj g a).2.1,i64 (bj g a).2.2]∧t=[]):=by
 have hw:a.kind.tmod 8=2:=(Int.tmod_eq_emod_of_nonneg hk).trans hj
 refine ae.av (n:=105) (rs:=[.cell 4 58,.tmp 5,.tmp 6]) Tryz.func34 rfl Tryz.ntmps34 rfl ?_
 repeat'(first
 |refine aa.ab fun K hK=>?_
 |(refine aa.region ?_;simp only[go_sem,hw])
 |(refine hK _ ?_;clear hK K)
 |refine aa.block ?_
 |refine aa.cond rfl (fun c=>?_) (fun c=>?_)<;>first|exact Bool.noConfusion c|(try simp only[dD] at c)
 |(refine ah.one (Q0 g a.dZ a.ex hg) (by kernel_rfl) rfl ?_;simp only[go_sem,hw])
 |(
  refine aa.ret ?_
  refine az.is ?_;simp only[go_sem,aB,aE,aF,aA,aC,aD]<;>(simp[w7 hj];done)))
theorem LQ(g:Gt)(a:Ac)(hg:bO g)(hk:0≤a.kind)(hm:0≤a.more∧a.more<256)(hj:a.kind%8=3):ae E 34 [aL g,eJ a] (fun r t=>r= .ax [aL (bj g a).1,i64 (bj g a).2.1,i64 (bj g a).2.2]∧t=[]):=by
 have hw:a.kind.tmod 8=3:=(Int.tmod_eq_emod_of_nonneg hk).trans hj
 refine ae.av (n:=105) (rs:=[.cell 4 58,.tmp 5,.tmp 6]) Tryz.func34 rfl Tryz.ntmps34 rfl ?_
 repeat'(first
 |refine aa.ab fun K hK=>?_
 |(refine aa.region ?_;simp only[go_sem,hw])
 |(refine aa.here 11 65 12 rfl ?_;refine aa.bc [0,1,2,3,4,5,6,7,8,9,10,11] [] (by kernel_rfl) (by kernel_rfl) rfl ?_;simp only[go_sem,hw])
 |(refine hK _ ?_;clear hK K)
 |refine aa.block ?_
 |refine aa.cond rfl (fun c=>?_) (fun c=>?_)<;>first|exact Bool.noConfusion c|(try simp only[dD] at c)
 |(refine ah.one (x8 g.now a.more hm) (by kernel_rfl) rfl ?_;simp only[go_sem,hw])
 |(refine ah.one (Xj g (lu g.now a.more) hg) (by kernel_rfl) rfl ?_;simp only[go_sem,hw])
 |(
  refine aa.ret ?_
  refine az.is ?_;simp only[go_sem,aB,aE,aF,aA,aC,aD]<;>(simp[xx hj];done)))
theorem Nd(g:Gt)(a:Ac)(hg:bO g)(hk:0≤a.kind)(hm:0≤a.more∧a.more<256)(hj:a.kind%8=4):ae E 34 [aL g,eJ a] (fun r t=>r= .ax [aL (bj g a).1,i64 (bj g a).2.1,i64 (bj g a).2.2]∧t=[]):=by
 have hw:a.kind.tmod 8=4:=(Int.tmod_eq_emod_of_nonneg hk).trans hj
 refine ae.av (n:=105) (rs:=[.cell 4 58,.tmp 5,.tmp 6]) Tryz.func34 rfl Tryz.ntmps34 rfl ?_
 repeat'(first
 |refine aa.ab fun K hK=>?_
 |(refine aa.region ?_;simp only[go_sem,hw])
 |(refine hK _ ?_;clear hK K)
 |refine aa.block ?_
 |refine aa.cond rfl (fun c=>?_) (fun c=>?_)<;>first|exact Bool.noConfusion c|(try simp only[dD] at c)
 |(refine ah.one (PG g a.on hg) (by kernel_rfl) rfl ?_;simp only[go_sem,hw])
 |(
  refine aa.ret ?_
  refine az.is ?_;simp only[go_sem,aB,aE,aF,aA,aC,aD]<;>(simp[zZ hj];done)))
theorem Ji(g:Gt)(a:Ac)(hg:bO g)(hk:0≤a.kind)(hm:0≤a.more∧a.more<256)(hj:a.kind%8=5):ae E 34 [aL g,eJ a] (fun r t=>r= .ax [aL (bj g a).1,i64 (bj g a).2.1,i64 (bj g a).2.2]∧t=[]):=by
 have hw:a.kind.tmod 8=5:=(Int.tmod_eq_emod_of_nonneg hk).trans hj
 refine ae.av (n:=105) (rs:=[.cell 4 58,.tmp 5,.tmp 6]) Tryz.func34 rfl Tryz.ntmps34 rfl ?_
 repeat'(first
 |refine aa.ab fun K hK=>?_
 |(refine aa.region ?_;simp only[go_sem,hw])
 |(refine hK _ ?_;clear hK K)
 |refine aa.block ?_
 |refine aa.cond rfl (fun c=>?_) (fun c=>?_)<;>first|exact Bool.noConfusion c|(try simp only[dD] at c)
 |(refine ah.one (O7 g a.dZ a.on hg) (by kernel_rfl) rfl ?_;simp only[go_sem,hw])
 |(
  refine aa.ret ?_
  refine az.is ?_;simp only[go_sem,aB,aE,aF,aA,aC,aD]<;>(simp[Ab hj];done)))
theorem Rt(g:Gt)(a:Ac)(hg:bO g)(hk:0≤a.kind)(hm:0≤a.more∧a.more<256)(hj:a.kind%8=6):ae E 34 [aL g,eJ a] (fun r t=>r= .ax [aL (bj g a).1,i64 (bj g a).2.1,i64 (bj g a).2.2]∧t=[]):=by
 have hw:a.kind.tmod 8=6:=(Int.tmod_eq_emod_of_nonneg hk).trans hj
 refine ae.av (n:=105) (rs:=[.cell 4 58,.tmp 5,.tmp 6]) Tryz.func34 rfl Tryz.ntmps34 rfl ?_
 repeat'(first
 |refine aa.ab fun K hK=>?_
 |(refine aa.region ?_;simp only[go_sem,hw])
 |(refine hK _ ?_;clear hK K)
 |refine aa.block ?_
 |refine aa.cond rfl (fun c=>?_) (fun c=>?_)<;>first|exact Bool.noConfusion c|(try simp only[dD] at c)
 |(refine ah.one (Ew g a.dZ hg) (by kernel_rfl) rfl ?_;simp only[go_sem,hw])
 |(
  refine aa.ret ?_
  refine az.is ?_;simp only[go_sem,aB,aE,aF,aA,aC,aD]<;>(simp[yW hj];done)))
theorem Fb(g:Gt)(a:Ac)(hg:bO g)(hk:0≤a.kind)(hm:0≤a.more∧a.more<256)(hj:a.kind%8=7):ae E 34 [aL g,eJ a] (fun r t=>r= .ax [aL (bj g a).1,i64 (bj g a).2.1,i64 (bj g a).2.2]∧t=[]):=by
 have hw:a.kind.tmod 8=7:=(Int.tmod_eq_emod_of_nonneg hk).trans hj
 refine ae.av (n:=105) (rs:=[.cell 4 58,.tmp 5,.tmp 6]) Tryz.func34 rfl Tryz.ntmps34 rfl ?_
 repeat'(first
 |refine aa.ab fun K hK=>?_
 |(refine aa.region ?_;simp only[go_sem,hw])
 |(refine hK _ ?_;clear hK K)
 |refine aa.block ?_
 |refine aa.cond rfl (fun c=>?_) (fun c=>?_)<;>first|exact Bool.noConfusion c|(try simp only[dD] at c)
 |(refine ah.one (zE g a.lim hg) (by kernel_rfl) rfl ?_;simp only[go_sem,hw])
 |(
  refine aa.ret ?_
  refine az.is ?_;simp only[go_sem,aB,aE,aF,aA,aC,aD]<;>(simp[B6 hj];done)))
end Go.Proofs.YtajeeghgiilhiaaGreat
end
