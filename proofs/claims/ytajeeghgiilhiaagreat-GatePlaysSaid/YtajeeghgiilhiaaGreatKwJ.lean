/- Texts of one chain, put together (Q2, Q3, Q4, Q19, Q22, Q5, Q6, Q29, G1, G2, G3). -/
import Derived.Test.YtajeeghgiilhiaaGreatKwI
import Derived.Test.YtajeeghgiilhiaaGreatKwE
import Derived.Test.YtajeeghgiilhiaaGreatKwF
import Derived.Test.YtajeeghgiilhiaaGreatKwG
set_option linter.unusedVariables false
set_option linter.unusedSimpArgs false
set_option maxHeartbeats 16000000
set_option maxRecDepth 8000
section
namespace Go.Proofs.YtajeeghgiilhiaaGreat
open Go Go.Abs Go.RowKit Go.Bk
abbrev hP(x:Ex):Prop:=x.id.length≤9223372036854775807∧x.ref.length≤9223372036854775807∧x.ord.length≤9223372036854775807∧x.acc.length≤9223372036854775807∧x.sym.length≤9223372036854775807
theorem Ki{x:Ex}(h:x.kind<1∨8<x.kind):dh x=false:=by
 unfold dh;rw[if_neg (by omega),if_neg (by omega)];simp
theorem Uc{x:Ex}(h1:¬(x.kind=4∨x.kind=7∨x.kind=8))(h2:1≤x.kind∧x.kind≤8):dh x=(fy x.id&&fy x.ord&&fy x.acc&&fy x.sym&&decide (x.ref=[])&&bJ x.al&&bJ x.aw&&lv x.time):=by
 unfold dh;rw[if_neg h1,if_pos (by omega)]
theorem Ai{l:List Od}{i:Nat}{o:Od}(h:l[i]?=some o):bN l o.id=i↔bS (l.take i) o.id=none:=by
 rw[yK,uB h (by simp),bS,List.findIdx?_eq_none_iff]
theorem UI{l:List Od}{i:Nat}{o:Od}(h:l[i]?=some o)(h1:bn o=true)(h2:bN l o.id=i):gU l i=true:=by
 unfold gU;rw[h];simp[h1,(Ai h).1 h2]
theorem KD{l:List Od}{i:Nat}{o:Od}(h:l[i]?=some o)(h2:¬bN l o.id=i):gU l i=false:=by
 unfold gU;rw[h]
 rw[Ai h] at h2
 cases hp:bS (l.take i) o.id with
 |none=>exact absurd hp h2
 |some n=>simp[hp]
theorem Dc{l:List Od}{i:Nat}(h1:i≤l.length)(h2:i<l.length)(h3:63<i):aU l=false:=AZ (by omega)
theorem Cp(n:Int):ae E 242 [i64 n] (fun r t=>r=bl (bJ n)∧t=[]):=by
 refine ae.av (n:=9) (rs:=[.tmp 2]) Tryz.func242 rfl Tryz.ntmps242 rfl ?_
 repeat'(first
 |refine aa.ab fun K hK=>?_
 |(refine aa.region ?_;simp only[go_sem])
 |(refine hK _ ?_;clear hK K)
 |(refine aH.split (fun h=>?_) (fun h=>?_)<;>simp only[h,go_sem]<;>(try simp only[dD] at h))
 |(
  refine aa.ret ?_
  refine az.is ?_;simp only[go_sem,aB,aE,aF,aA,aC,aD];(simp_all[bJ]<;>omega)))
theorem Gc(n:Int):ae E 243 [i64 n] (fun r t=>r=bl (lv n)∧t=[]):=by
 refine ae.av (n:=9) (rs:=[.tmp 2]) Tryz.func243 rfl Tryz.ntmps243 rfl ?_
 repeat'(first
 |refine aa.ab fun K hK=>?_
 |(refine aa.region ?_;simp only[go_sem])
 |(refine hK _ ?_;clear hK K)
 |(refine aH.split (fun h=>?_) (fun h=>?_)<;>simp only[h,go_sem]<;>(try simp only[dD] at h))
 |(
  refine aa.ret ?_
  refine az.is ?_;simp only[go_sem,aB,aE,aF,aA,aC,aD];(simp_all[lv]<;>omega)))
theorem ti(n:Int):ae E 187 [i64 n] (fun r t=>r=bl (bJ n)∧t=[]):=by
 refine ae.av (n:=9) (rs:=[.tmp 2]) Tryz.func187 rfl Tryz.ntmps187 rfl ?_
 repeat'(first
 |refine aa.ab fun K hK=>?_
 |(refine aa.region ?_;simp only[go_sem])
 |(refine hK _ ?_;clear hK K)
 |(refine aH.split (fun h=>?_) (fun h=>?_)<;>simp only[h,go_sem]<;>(try simp only[dD] at h))
 |(
  refine aa.ret ?_
  refine az.is ?_;simp only[go_sem,aB,aE,aF,aA,aC,aD];(simp_all[bJ]<;>omega)))
theorem U0(n:Int):ae E 68 [i64 n] (fun r t=>r=bl (bJ n)∧t=[]):=by
 refine ae.av (n:=9) (rs:=[.tmp 2]) Tryz.func68 rfl Tryz.ntmps68 rfl ?_
 repeat'(first
 |refine aa.ab fun K hK=>?_
 |(refine aa.region ?_;simp only[go_sem])
 |(refine hK _ ?_;clear hK K)
 |(refine aH.split (fun h=>?_) (fun h=>?_)<;>simp only[h,go_sem]<;>(try simp only[dD] at h))
 |(
  refine aa.ret ?_
  refine az.is ?_;simp only[go_sem,aB,aE,aF,aA,aC,aD];(simp_all[bJ]<;>omega)))
theorem Bc(s:Bs):ae E 186 [str s] (fun r t=>r=bl (gK s)∧t=[]):=by
 refine ae.av (n:=11) (rs:=[.tmp 2]) Tryz.func186 rfl Tryz.ntmps186 rfl ?_
 repeat'(first
 |refine aa.ab fun K hK=>?_
 |(refine aa.region ?_;simp only[go_sem])
 |(refine hK _ ?_;clear hK K)
 |(refine aH.split (fun h=>?_) (fun h=>?_)<;>simp only[h,go_sem]<;>(try simp only[dD] at h))
 |(
  refine aa.ret ?_
  refine az.is ?_;simp only[go_sem,aB,aE,aF,aA,aC,aD];(cases s<;>simp_all[gK]<;>omega)))
theorem oi(o:Od):ae E 139 [aW o] (fun r t=>r=bl (bn o)∧t=[]):=by
 refine ae.av (n:=38) (rs:=[.tmp 2]) Tryz.func139 rfl Tryz.ntmps139 rfl ?_
 repeat'(first
 |refine aa.ab fun K hK=>?_
 |(refine aa.region ?_;simp only[go_sem])
 |(refine hK _ ?_;clear hK K)
 |(refine ah.one (Bc _) (by kernel_rfl) rfl ?_;simp only[go_sem])
 |(refine ah.one (ti _) (by kernel_rfl) rfl ?_;simp only[go_sem])
 |(refine aH.split (fun h=>?_) (fun h=>?_)<;>simp only[h,go_sem]<;>(try simp only[dD] at h))
 |(
  refine aa.ret ?_
  refine az.is ?_;simp only[go_sem,aB,aE,aF,aA,aC,aD];(simp_all[bn]<;>(intros;omega))))
theorem QF(s:Bs)(hs:s.length≤9223372036854775807):ae E 241 [str s] (fun r t=>r=bl (fy s)∧t=[]):=by
 refine ae.av (n:=47) (rs:=[.tmp 2]) Tryz.func241 rfl Tryz.ntmps241 rfl ?_
 repeat'(first
 |refine aa.ab fun K hK=>?_
 |(refine aa.region ?_;simp only[go_sem])
 |(refine hK _ ?_;clear hK K)
 |refine aa.block ?_
 |refine aa.cond rfl (fun c=>?_) (fun c=>?_)<;>first|exact Bool.noConfusion c|(try simp only[dD] at c)
 |refine aa.skip ?_
 |(refine aa.exit ?_;simp only[go_sem])
 |(refine aH.bY (fun h=>?_) (fun h=>?_)<;>simp only[h,go_sem]<;>(try simp only[dD] at h))
 |(refine aH.split (fun h=>?_) (fun h=>?_)<;>simp only[h,go_sem]<;>(try simp only[dD] at h))
 |((refine aG.mN ?_ (fun b hb=>?_));(focus(omega));(try simp only[hb,go_sem]))
 |(
  refine aa.here 2 5 4 rfl ?_
  refine aa.cr (ι:=Nat) [2,4,5,6,7,8,9,10,11,12,13,14,15,16,17,18,19,20,21,22,23,24,25,26,27,28,29,30,31,32,33,34,35,36,37,38] (fun(i:Nat)=>[(3,i64 i)]) (fun(i:Nat)=>i≤s.length∧(s.take i).all isName=true) (fun(i:Nat)=>s.length-i) (0) ?_ ?_ ?_
  ·(try simp only[go_sem]);(repeat'(first|fail))
  ·exact⟨by omega,by simp⟩
  rintro i ⟨h1,h2⟩
  simp only[go_sem])
 |(
  refine⟨i+1,?_,?_,?_⟩
  ·(try simp only[go_sem]);(try rw[aq (by omega) (by omega)]);(repeat'(exact .inr rfl))
  ·exact⟨by omega,lj hb h2 (by simp only[isName];simp;omega)⟩
  ·(try simp only[]);omega)
 |(
  refine aa.ret ?_
  refine az.is ?_;simp only[go_sem,aB,aE,aF,aA,aC,aD];(first
  |(rw[yw hb (by simp only[isName];simp;omega)];done)
  |(rw[List.take_of_length_le (by omega)] at h2;rw[Bool.eq_iff_iff];simp[fy,h2];omega)))
 |refine aa.fin (by assumption) ?_)
theorem CR(x:Ex)(hx:hP x):ae E 214 [an x] (fun r t=>r=bl (dh x)∧t=[]):=by
 obtain⟨hs1,hs2,hs3,hs4,hs5⟩:=hx
 refine ae.av (n:=68) (rs:=[.tmp 2]) Tryz.func214 rfl Tryz.ntmps214 rfl ?_
 repeat'(first
 |refine aa.ab fun K hK=>?_
 |(refine aa.region ?_;simp only[go_sem])
 |(refine hK _ ?_;clear hK K)
 |refine aa.cond rfl (fun c=>?_) (fun c=>?_)<;>first|exact Bool.noConfusion c|(try simp only[dD] at c)
 |refine aa.skip ?_
 |(refine ah.one (QF _ (by assumption)) (by kernel_rfl) rfl ?_;simp only[go_sem])
 |(refine ah.one (Cp _) (by kernel_rfl) rfl ?_;simp only[go_sem])
 |(refine ah.one (Gc _) (by kernel_rfl) rfl ?_;simp only[go_sem])
 |(refine aH.bY (fun h=>?_) (fun h=>?_)<;>simp only[h,go_sem]<;>(try simp only[dD] at h))
 |(refine aH.split (fun h=>?_) (fun h=>?_)<;>simp only[h,go_sem]<;>(try simp only[dD] at h))
 |(
  refine aa.ret ?_
  refine az.is ?_;simp only[go_sem,aB,aE,aF,aA,aC,aD];(first|(simp_all[dh];done)|(rw[Ki (by omega)];done)|(rw[Uc (by omega) (by omega)];simp[*];done))))
theorem xw(l:List Bs)(id:Bs)(hl:l.length≤9223372036854775807):ae E 66 [.sl none 1 (l.map str),str id] (fun r t=>r=i64 (eM l id)∧t=[]):=by
 refine ae.av (n:=19) (rs:=[.tmp 4]) Tryz.func66 rfl Tryz.ntmps66 rfl ?_
 repeat'(first
 |refine aa.ab fun K hK=>?_
 |(refine aa.region ?_;simp only[go_sem])
 |(refine hK _ ?_;clear hK K)
 |refine aa.block ?_
 |refine aa.cond rfl (fun c=>?_) (fun c=>?_)<;>(try simp only[dD] at c)
 |refine aa.skip ?_
 |(refine aa.exit ?_;simp only[go_sem])
 |((first|refine aG.nth ?_ (fun b hb=>?_)|with_reducible refine And.intro ?_ ?_);(focus(first|omega|(simp;done)));(try simp only[hb,go_sem]))
 |(
  refine aa.here 2 6 4 rfl ?_
  refine aa.cr (ι:=Nat) [4,6,7,8,9,10,11,12,13,14,15,16,17,18] (fun(i:Nat)=>[(5,i64 i)]) (fun(i:Nat)=>i≤l.length∧gj (fun s=>decide (s=id)) i (l.drop i)=eM l id) (fun(i:Nat)=>l.length-i) (0) ?_ ?_ ?_
  ·(try simp only[go_sem]);(repeat'(first|fail))
  ·exact⟨by omega,by rw[uy];rfl⟩
  rintro i ⟨h1,h2⟩
  simp only[go_sem])
 |(
  refine⟨i+1,?_,?_,?_⟩
  ·(try simp only[go_sem]);(try rw[aq (by omega) (by omega)]);(repeat'(exact .inr rfl))
  ·exact⟨by omega,by rw[jL (by assumption)] at h2;rw[←h2];simp[gj, *]⟩
  ·(try simp only[]);omega)
 |(
  refine aa.ret ?_
  refine az.is ?_;simp only[go_sem,aB,aE,aF,aA,aC,aD];(first|(rw[jL (by assumption)] at h2;rw[←h2];simp[gj, *];done)|(rw[uG (by omega)] at h2;rw[←h2];simp[gj])))
 |refine aa.fin (by assumption) ?_)
theorem yE(l:List Dn)(id:Bs)(hl:l.length≤9223372036854775807):ae E 67 [bZ l,str id] (fun r t=>r=i64 (fv l id)∧t=[]):=by
 refine ae.av (n:=20) (rs:=[.tmp 4]) Tryz.func67 rfl Tryz.ntmps67 rfl ?_
 repeat'(first
 |refine aa.ab fun K hK=>?_
 |(refine aa.region ?_;simp only[go_sem])
 |(refine hK _ ?_;clear hK K)
 |refine aa.block ?_
 |refine aa.cond rfl (fun c=>?_) (fun c=>?_)<;>(try simp only[dD] at c)
 |refine aa.skip ?_
 |(refine aa.exit ?_;simp only[go_sem])
 |((first|refine aG.nth ?_ (fun b hb=>?_)|with_reducible refine And.intro ?_ ?_);(focus(first|omega|(simp;done)));(try simp only[hb,go_sem]))
 |(
  refine aa.here 2 6 4 rfl ?_
  refine aa.cr (ι:=Nat) [4,6,7,8,9,10,11,12,13,14,15,16,17,18,19] (fun(i:Nat)=>[(5,i64 i)]) (fun(i:Nat)=>i≤l.length∧gj (fun s=>decide (s.id=id)) i (l.drop i)=fv l id) (fun(i:Nat)=>l.length-i) (0) ?_ ?_ ?_
  ·(try simp only[go_sem]);(repeat'(first|fail))
  ·exact⟨by omega,by rw[Cc];rfl⟩
  rintro i ⟨h1,h2⟩
  simp only[go_sem])
 |(
  refine⟨i+1,?_,?_,?_⟩
  ·(try simp only[go_sem]);(try rw[aq (by omega) (by omega)]);(repeat'(exact .inr rfl))
  ·exact⟨by omega,by rw[jL (by assumption)] at h2;rw[←h2];simp[gj, *]⟩
  ·(try simp only[]);omega)
 |(
  refine aa.ret ?_
  refine az.is ?_;simp only[go_sem,aB,aE,aF,aA,aC,aD];(first|(rw[jL (by assumption)] at h2;rw[←h2];simp[gj, *];done)|(rw[uG (by omega)] at h2;rw[←h2];simp[gj])))
 |refine aa.fin (by assumption) ?_)
theorem fK(l:List Od)(id:Bs)(hl:l.length≤9223372036854775807):ae E 123 [aR l,str id] (fun r t=>r=i64 (bN l id)∧t=[]):=by
 refine ae.av (n:=20) (rs:=[.tmp 4]) Tryz.func123 rfl Tryz.ntmps123 rfl ?_
 repeat'(first
 |refine aa.ab fun K hK=>?_
 |(refine aa.region ?_;simp only[go_sem])
 |(refine hK _ ?_;clear hK K)
 |refine aa.block ?_
 |refine aa.cond rfl (fun c=>?_) (fun c=>?_)<;>(try simp only[dD] at c)
 |refine aa.skip ?_
 |(refine aa.exit ?_;simp only[go_sem])
 |((first|refine aG.nth ?_ (fun b hb=>?_)|with_reducible refine And.intro ?_ ?_);(focus(first|omega|(simp;done)));(try simp only[hb,go_sem]))
 |(
  refine aa.here 2 6 4 rfl ?_
  refine aa.cr (ι:=Nat) [4,6,7,8,9,10,11,12,13,14,15,16,17,18,19] (fun(i:Nat)=>[(5,i64 i)]) (fun(i:Nat)=>i≤l.length∧gj (fun s=>decide (s.id=id)) i (l.drop i)=bN l id) (fun(i:Nat)=>l.length-i) (0) ?_ ?_ ?_
  ·(try simp only[go_sem]);(repeat'(first|fail))
  ·exact⟨by omega,by rw[yK];rfl⟩
  rintro i ⟨h1,h2⟩
  simp only[go_sem])
 |(
  refine⟨i+1,?_,?_,?_⟩
  ·(try simp only[go_sem]);(try rw[aq (by omega) (by omega)]);(repeat'(exact .inr rfl))
  ·exact⟨by omega,by rw[jL (by assumption)] at h2;rw[←h2];simp[gj, *]⟩
  ·(try simp only[]);omega)
 |(
  refine aa.ret ?_
  refine az.is ?_;simp only[go_sem,aB,aE,aF,aA,aC,aD];(first|(rw[jL (by assumption)] at h2;rw[←h2];simp[gj, *];done)|(rw[uG (by omega)] at h2;rw[←h2];simp[gj])))
 |refine aa.fin (by assumption) ?_)
theorem nW(l:List Od)(hl:l.length≤9223372036854775807):ae E 65 [aR l] (fun r t=>r=bl (aU l)∧t=[]):=by
 refine ae.av (n:=31) (rs:=[.tmp 2]) Tryz.func65 rfl Tryz.ntmps65 rfl ?_
 repeat'(first
 |refine aa.ab fun K hK=>?_
 |(refine aa.region ?_;simp only[go_sem])
 |(refine hK _ ?_;clear hK K)
 |refine aa.block ?_
 |refine aa.cond rfl (fun c=>?_) (fun c=>?_)<;>first|exact Bool.noConfusion c|(try simp only[dD] at c)
 |refine aa.skip ?_
 |(refine aa.exit ?_;simp only[go_sem])
 |(refine ah.one (oi _) (by kernel_rfl) rfl ?_;simp only[go_sem])
 |(refine ah.one (fK _ _ (by(assumption))) (by kernel_rfl) rfl ?_;simp only[go_sem])
 |(refine aH.bY (fun h=>?_) (fun h=>?_)<;>simp only[h,go_sem]<;>(try simp only[dD] at h))
 |(refine aH.split (fun h=>?_) (fun h=>?_)<;>simp only[h,go_sem]<;>(try simp only[dD] at h))
 |(refine aG.bA (by assumption) ?_;(try simp only[go_sem]))
 |((first|refine aG.nth ?_ (fun b hb=>?_)|with_reducible refine And.intro ?_ ?_);(focus(first|omega|(simp;done)));(try simp only[hb,go_sem]))
 |(
  refine aa.here 2 4 4 rfl ?_
  refine aa.cr (ι:=Nat) [2,4,5,6,7,8,9,10,11,12,13,14,15,16,17,18,19,20,21,22,23,24,25,26,27,28,29,30] (fun(i:Nat)=>[(3,i64 i)]) (fun(i:Nat)=>i≤l.length∧i≤64∧jm l i=true) (fun(i:Nat)=>l.length-i) (0) ?_ ?_ ?_
  ·(try simp only[go_sem]);(repeat'(first|fail))
  ·exact⟨by omega,by omega,rfl⟩
  rintro i ⟨h1,h2,h3⟩
  simp only[go_sem])
 |(
  refine⟨i+1,?_,?_,?_⟩
  ·(try simp only[go_sem]);(try rw[aq (by omega) (by omega)]);(repeat'(exact .inr rfl))
  ·exact⟨by omega,by omega,AP h3 (UI hb (by assumption) (by omega))⟩
  ·(try simp only[]);omega)
 |(
  refine aa.ret ?_
  refine az.is ?_;simp only[go_sem,aB,aE,aF,aA,aC,aD];(first
  |(rw[Dc h1 (by omega) (by omega)];done)
  |(rw[p4 (by omega) (AN hb (by assumption))];done)
  |(rw[p4 (by omega) (KD hb (by omega))];done)
  |(rw[Bg (by omega) (by omega) h3];done)))
 |refine aa.fin (by assumption) ?_)
theorem F0{l:List Bs}{i:Nat}{p b:Bs}(hp:l[i]?=some p)(hb:l[i+1]?=some b)(h:¬b=p):fm (l.drop (i+1))=fm (l.drop i):=by
 rw[jL hp,jL hb];simp[fm,h]
theorem C1{l:List Bs}{i:Nat}{p b:Bs}(hp:l[i]?=some p)(hb:l[i+1]?=some b)(h:b=p):fm (l.drop i)=true:=by
 rw[jL hp,jL hb];simp[fm,h]
theorem DP{l:List Bs}{i:Nat}(h:l.length≤i+1):fm (l.drop i)=false:=by
 cases hd:l.drop i with
 |nil=>rfl
 |cons x m=>
  have:=congrArg List.length hd
  rw[List.length_drop,List.length_cons] at this
  have:m=[]:=List.eq_nil_of_length_eq_zero (by omega)
  subst this;rfl
theorem nr{i j:Nat}(h1:i≤1000000)(h2:j≤1000000):IntKind.i64.wrap ((IntKind.u64.wrap (IntKind.i64.wrap ((i:Int)+j))).fdiv (2^(min 1 64)))=(((i+j)/2:Nat):Int):=by
 have e0:IntKind.i64.wrap ((i:Int)+j)=(i:Int)+j:=aq (by omega) (by omega)
 have e1:IntKind.u64.wrap ((i:Int)+j)=((i:Int)+j):=by
  simp only[IntKind.wrap,IntKind.bits,IntKind.signed]
  have:((i:Int)+j)%2^64=((i:Int)+j):=by omega
  simp only[this];simp
 rw[e0,e1,show(2:Int)^(min 1 64)=2 by decide,Int.fdiv_eq_ediv_of_nonneg _ (by omega)]
 rw[aq (by omega) (by omega)];omega
theorem TC{l:List Bs}{x y:Bs}{i m:Nat}(hs:l.Pairwise (fun a b=>a≤b))(h3:∀k y,k<i→l[k]?=some y→y<x)(hb:l[m]?=some y)(h:y<x):∀k y,k<m+1→l[k]?=some y→y<x:=by
 intro k z hk hz
 rcases Nat.lt_or_ge k m with h'|h'
 ·obtain⟨hk1,rfl⟩:=List.getElem?_eq_some_iff.1 hz
  obtain⟨hm1,rfl⟩:=List.getElem?_eq_some_iff.1 hb
  exact List.lt_of_le_of_lt (List.pairwise_iff_getElem.1 hs k m hk1 hm1 h') h
 ·have:k=m:=by omega
  subst this
  rw[hb] at hz;cases hz;exact h
theorem QU{l:List Bs}{x y:Bs}{j m:Nat}(hs:l.Pairwise (fun a b=>a≤b))(h4:∀k y,j≤k→l[k]?=some y→¬y<x)(hb:l[m]?=some y)(h:¬y<x):∀k y,m≤k→l[k]?=some y→¬y<x:=by
 intro k z hk hz hc
 rcases Nat.lt_or_ge m k with h'|h'
 ·obtain⟨hk1,rfl⟩:=List.getElem?_eq_some_iff.1 hz
  obtain⟨hm1,rfl⟩:=List.getElem?_eq_some_iff.1 hb
  exact h (List.lt_of_le_of_lt (List.pairwise_iff_getElem.1 hs m k hm1 hk1 h') hc)
 ·have:k=m:=by omega
  subst this
  rw[hb] at hz;cases hz;exact h hc
theorem RS{l:List Bs}{x y:Bs}{i:Nat}(h3:∀k y,k<i→l[k]?=some y→y<x)(h4:∀k y,i≤k→l[k]?=some y→¬y<x)(hs:l.Pairwise (fun a b=>a≤b))(hb:l[i]?=some y):decide (x∈l)=decide (y=x):=by
 by_cases h:y=x
 ·subst h;simp[List.mem_of_getElem? hb]
 ·have:¬x∈l:=fun hm=>by
   obtain⟨k,hk⟩:=List.mem_iff_getElem?.1 hm
   rcases Nat.lt_trichotomy k i with h'|h'|h'
   ·exact List.lt_irrefl x (h3 k x h' hk)
   ·subst h';rw[hk] at hb;cases hb;exact h rfl
   ·obtain⟨hk1,e1⟩:=List.getElem?_eq_some_iff.1 hk
    obtain⟨hm1,e2⟩:=List.getElem?_eq_some_iff.1 hb
    have:=List.pairwise_iff_getElem.1 hs i k hm1 hk1 h'
    rw[e1,e2] at this
    have h5:=h4 i y (Nat.le_refl _) hb
    exact h (List.le_antisymm this (List.not_lt.1 h5))
  simp[this,h]
theorem Vf{l:List Bs}{x:Bs}{i:Nat}(hi:l.length≤i)(h3:∀k y,k<i→l[k]?=some y→y<x):decide (x∈l)=false:=by
 simp only[decide_eq_false_iff_not]
 intro hm
 obtain⟨k,hk⟩:=List.mem_iff_getElem?.1 hm
 exact List.lt_irrefl x (h3 k x (by have:=bI hk;omega) hk)
theorem Bw(l:List Bs)(hl:l.length≤9223372036854775807):ae E 100 [.sl none 1 (l.map str)] (fun r t=>r=bl (fm l)∧t=[]):=by
 refine ae.av (n:=20) (rs:=[.tmp 2]) Tryz.func100 rfl Tryz.ntmps100 rfl ?_
 repeat'(first
 |refine aa.ab fun K hK=>?_
 |(
  refine aa.here 4 10 10 rfl ?_
  have hlt:i+1<l.length:=by omega
  obtain⟨p,hp⟩:∃p,l[i]?=some p:=⟨_,List.getElem?_eq_getElem (by omega)⟩
  refine aa.bc [0,1,2,3,4,5,6,7,8,9] [] (by kernel_rfl) (by kernel_rfl) rfl ?_;simp only[go_sem,hw,hp]
  refine aG.nth hlt (fun b hb=>?_)
  simp only[hb,go_sem,hw,hp])
 |(refine aa.region ?_;simp only[go_sem])
 |(refine hK _ ?_;clear hK K)
 |refine aa.block ?_
 |refine aa.cond rfl (fun c=>?_) (fun c=>?_)<;>(try simp only[dD] at c)
 |refine aa.skip ?_
 |(refine aa.exit ?_;simp only[go_sem])
 |((with_reducible refine And.intro ?_ ?_);(focus((simp;done)));(try simp only[hb,go_sem]))
 |(
  refine aa.here 2 4 4 rfl ?_
  refine aa.cr (ι:=Nat) [2,4,5,6,7,8,9,10,11,12,13,14,15,16,17,18,19] (fun(i:Nat)=>[(3,i64 (i+1:Nat))]) (fun(i:Nat)=>i≤l.length∧fm (l.drop i)=fm l) (fun(i:Nat)=>l.length-i) (0) ?_ ?_ ?_
  ·(try simp only[go_sem]);(repeat'(first|fail))
  ·exact⟨by omega,rfl⟩
  rintro i ⟨h1,h2⟩
  simp only[go_sem]
  have hw:(IntKind.i64.wrap (((i+1:Nat):Int)-1))=(i:Int):=by rw[aq (by omega) (by omega)];omega)
 |(
  refine⟨i+1,?_,?_,?_⟩
  ·(try simp only[go_sem]);(try rw[aq (by omega) (by omega)]);((simp;done))
  ·exact⟨by omega,by rw[←h2];exact F0 hp hb (by assumption)⟩
  ·(try simp only[]);omega)
 |(
  refine aa.ret ?_
  refine az.is ?_;simp only[go_sem,aB,aE,aF,aA,aC,aD]<;>(first
  |(rw[←h2,C1 hp hb (by assumption)];done)
  |(rw[←h2,DP (by omega)];done)))
 |refine aa.fin (by assumption) ?_)
theorem HN(s:Bs):ae E 167 [str s] (fun r t=>r=bl false∧t=[]):=by
 refine ae.av (n:=6) (rs:=[.tmp 2]) Tryz.func167 rfl Tryz.ntmps167 rfl ?_
 repeat'(first
 |refine aa.ab fun K hK=>?_
 |(refine aa.region ?_;simp only[go_sem])
 |(refine hK _ ?_;clear hK K)
 |(
  refine aa.ret ?_
  refine az.is ?_;simp only[go_sem,aB,aE,aF,aA,aC,aD]<;>(simp;done)))
theorem BN(s:Bs):ae E 183 [str s] (fun r t=>r=bl false∧t=[]):=by
 refine ae.av (n:=6) (rs:=[.tmp 2]) Tryz.func183 rfl Tryz.ntmps183 rfl ?_
 repeat'(first
 |refine aa.ab fun K hK=>?_
 |(refine aa.region ?_;simp only[go_sem])
 |(refine hK _ ?_;clear hK K)
 |(
  refine aa.ret ?_
  refine az.is ?_;simp only[go_sem,aB,aE,aF,aA,aC,aD]<;>(simp;done)))
theorem VB(s u:Bs):ae E 166 [str s,str u] (fun r t=>r=bl (decide (s<u))∧t=[]):=by
 refine ae.av (n:=17) (rs:=[.tmp 4]) Tryz.func166 rfl Tryz.ntmps166 rfl ?_
 repeat'(first
 |refine aa.ab fun K hK=>?_
 |(refine aa.region ?_;simp only[go_sem,Go.Proofs.bytesLess_eq])
 |(refine hK _ ?_;clear hK K)
 |(refine ah.one (BN _) (by kernel_rfl) rfl ?_;simp only[go_sem,Go.Proofs.bytesLess_eq])
 |(
  refine aa.ret ?_
  refine az.is ?_;simp only[go_sem,aB,aE,aF,aA,aC,aD]<;>(simp[Go.Proofs.bytesLess_eq];done)))
theorem Dm(l:List Bs)(x:Bs)(hs:l.Pairwise (fun a b=>a≤b))(hl:l.length≤1000000):ae E 102 [.sl none 1 (l.map str),str x] (fun r t=>(∃n:Int,r= .ax [i64 n,bl (decide (x∈l))])∧t=[]):=by
 refine ae.av (n:=54) (rs:=[.tmp 4,.tmp 5]) Tryz.func102 rfl Tryz.ntmps102 rfl ?_
 repeat'(first
 |refine aa.ab fun K hK=>?_
 |(
  refine aa.here 5 22 6 rfl ?_
  rw[nr (i:=i) (j:=j) (by omega) (by omega)]
  refine aa.region ?_;simp only[go_sem])
 |(refine aa.region ?_;simp only[go_sem])
 |(refine hK _ ?_;clear hK K)
 |refine aa.block ?_
 |refine aa.cond rfl (fun c=>?_) (fun c=>?_)<;>(try simp only[dD] at c)
 |refine aa.skip ?_
 |(refine aa.exit ?_;simp only[go_sem])
 |(refine ah.one (VB _ _) (by kernel_rfl) rfl ?_;simp only[go_sem])
 |(refine ah.one (HN _) (by kernel_rfl) rfl ?_;simp only[go_sem])
 |(refine aH.bY (fun h=>?_) (fun h=>?_)<;>simp only[h,go_sem]<;>(try simp only[dD] at h))
 |(refine aH.split (fun h=>?_) (fun h=>?_)<;>simp only[h,go_sem]<;>(try simp only[dD] at h))
 |(refine aG.bA (by assumption) ?_;(try simp only[go_sem]))
 |((first|refine aG.nth ?_ (fun b hb=>?_)|with_reducible refine And.intro ?_ ?_);(focus(first|omega|(simp;done)));(try simp only[hb,go_sem]))
 |(
  refine aa.here 3 13 3 rfl ?_
  refine aa.cr (ι:=Nat×Nat) [9,13,14,15,16,17,18,19,20,21,22,23,24,25,26,27,28,29,30] (fun⟨i,j⟩=>[(7,i64 i),(8,i64 j)]) (fun⟨i,j⟩=>i≤j∧j≤l.length∧(∀k y,k<i→l[k]?=some y→y<x)∧(∀k y,j≤k→l[k]?=some y→¬y<x)) (fun⟨i,j⟩=>j-i) ((0,l.length)) ?_ ?_ ?_
  ·(try simp only[go_sem]);(repeat'(first|fail))
  ·exact⟨by simp,by simp,by simp,fun k y h1 h2=>absurd (bI h2) (by simpa using h1)⟩
  rintro⟨i,j⟩ ⟨h1,h2,h3,h4⟩
  simp only[go_sem])
 |(
  first
  |(refine⟨((i+j)/2+1,j),?_,?_,?_⟩
    ·(try simp only[go_sem]);(try rw[aq (by omega) (by omega)]);simp
    ·exact⟨by show(i+j)/2+1≤j;omega,h2,TC hs h3 hb (by assumption),h4⟩
    ·show j-((i+j)/2+1)<j-i;omega)
  |(refine⟨(i,(i+j)/2),?_,?_,?_⟩
    ·(try simp only[go_sem]);(try simp)
    ·exact⟨by show i≤(i+j)/2;omega,by show(i+j)/2≤l.length;omega,h3,QU hs h4 hb (by assumption)⟩
    ·show(i+j)/2-i<j-i;omega))
 |(
  refine aa.ret ?_
  simp only[go_sem]
  refine⟨[],.ax [i64 i,bl (decide (x∈l))],rfl,⟨rfl,?_,trivial⟩,⟨i,rfl⟩,rfl⟩
  refine congrArg (fun b=>Value.bool b) ?_
  obtain rfl:i=j:=by omega
  first|(rw[RS h3 h4 hs hb];simp[*];done)|exact(Vf (by omega) h3).symm)
 |refine aa.fin (by assumption) ?_)
theorem JN{l:List Bs}:∀x∈(AV.agg [.sl none 1 (l.map str)]).leaves,x.dL=some x:=by
 intro x hx
 simp only[AV.leaves,List.mem_cons,List.not_mem_nil,or_false] at hx
 subst hx;rfl
theorem Hn(l:List Bs):∀e∈l.map str,∀x∈e.leaves,x.dL=some x:=by
 intro e he x hx
 obtain⟨o,_,rfl⟩:=List.mem_map.1 he
 simp only[AV.leaves,List.mem_cons,List.not_mem_nil,or_false] at hx
 subst hx;rfl
theorem Ng(l:List Bs):jW [l.length] (.sl (some 0) 1 (l.map str)):=by
 refine⟨by simp,?_⟩
 intro e he y hy
 obtain⟨o,_,rfl⟩:=List.mem_map.1 he
 simp only[AV.leaves,List.mem_cons,List.not_mem_nil,or_false] at hy
 exact⟨_,hy⟩
theorem H8{l:List Bs}{m:Nat}:(l.map str++spare 1 m).take l.length=l.map str:=List.take_left' (by simp)
theorem Xa{l:List Bs}{x:Bs}:l.map str++[str x]=(l++[x]).map str:=by simp
theorem Tv{b:Bk}(h:fC b=false):aQ b=false:=by simp[aQ,h]
theorem O0{b:Bk}(h:fm (l6 b.ids)=true):aQ b=false:=by
 rw[sq] at h;simp[aQ];intro _ h2;simp[h2] at h
theorem xb{b:Bk}{i:Nat}{f:Dn}(hb:b.ai[i]?=some f)(h:cd b f=false):aQ b=false:=by
 have:b.ai.all (cd b)=false:=by
  rw[List.all_eq_false];exact⟨f,List.mem_of_getElem? hb,by simp[h]⟩
 unfold aQ;rw[this];simp
theorem S9{b:Bk}(h1:fC b=true)(h2:fm (l6 b.ids)=false)(h3:b.ai.all (cd b)=true):(!(!decide (b.ai.map (·.id)).Nodup))=aQ b:=by
 rw[sq] at h2
 unfold aQ;rw[h1,h3]
 have:decide b.ids.Nodup=true:=by simpa using h2
 rw[this];simp
theorem U1{b:Bk}{f:Dn}(h1:bJ f.al=true)(h2:bJ f.aw=true)(h3:¬f.time<0)(h4:¬b.clock<f.time)(h5:f.id∈ft b.ids):cd b f=true:=by
 rw[wP] at h5
 simp[cd,h1,h2,h5];omega
theorem KR{b:Bk}{f:Dn}(h5:¬f.id∈ft b.ids):cd b f=false:=by
 rw[wP] at h5
 simp[cd,h5]
theorem nM{α:Type}{l:List α}{p:α→Bool}{i:Nat}{x:α}(hb:l[i]?=some x)(h:(l.take i).all p=true)(hx:p x=true):(l.take (i+1)).all p=true:=by
 rw[cp hb,List.all_append,h];simp[hx]
theorem mE(bk:Bk)(ho:bk.af.length≤9223372036854775807)(hf:bk.ai.length≤9223372036854775807)(hi:bk.ids.length≤9223372036854775807):ae E 39 [dn bk] (fun r t=>r=bl (aQ bk)∧t=[]):=by
 refine ae.av (n:=100) (rs:=[.tmp 2]) Tryz.func39 rfl Tryz.ntmps39 rfl ?_
 repeat'(first
 |refine aa.ab fun K hK=>?_
 |(
  refine aa.here 16 94 2 rfl ?_
  rw[H8,Xa]
  refine aa.ik [0,1,4] (by decide) rfl rfl ?_
  simp only[go_sem]
  refine aa.region ?_;simp only[go_sem])
 |(
  refine aa.here 17 95 2 rfl ?_
  refine aa.bq ?_
  refine aj.at 2 1 rfl ?_
  simp only[go_sem]
  refine aj.LH (by kernel_rfl) rfl (fun aV off cap ss w h1 h2 h3=>Go.Proofs.AnyM.slices_Sort_string Go.Proofs.Tryz.qk aV off cap ss w h1 h2 h3) (fun p cap w=>Go.Proofs.AnyM.slices_Sort_string_none Go.Proofs.Tryz.qk p cap w) (id:=2) (l:=nl) (sp:=spare 1 m) rfl rfl (by omega) ?_
  simp only[go_sem]
  refine aj.of ?_
  simp only[go_sem])
 |(refine aa.here 3 45 5 rfl ?_;refine aa.bq ?_;refine aj.at 5 2 rfl ?_;simp only[go_sem])
 |(refine aa.region ?_;simp only[go_sem])
 |(refine hK _ ?_;clear hK K)
 |refine aa.block ?_
 |refine aa.cond rfl (fun c=>?_) (fun c=>?_)<;>first|exact Bool.noConfusion c|(try simp only[dD] at c)
 |refine aa.skip ?_
 |(refine aa.exit ?_;simp only[go_sem])
 |(refine ah.one (kZ _ (by(assumption))) (by kernel_rfl) rfl ?_;simp only[go_sem])
 |(refine ah.snap (OC bk.ids (by omega)) (by kernel_rfl) rfl (.cons (.fn (.cons (.ptr (e:= .agg [.sl none 1 (bk.ids.map str)]) rfl JN) .nil)) .nil) ?_;rintro r t ⟨rfl,rfl⟩;refine⟨Ng _,?_⟩;simp only[go_sem])
 |(refine ah.one (Bw _ (by rw[kB];omega)) (by kernel_rfl) rfl ?_;simp only[go_sem])
 |(refine ah.gS (Bw (ft nl) (by rw[kB];omega)) (by kernel_rfl) rfl (.cons (.one (.iY rfl (by simp[kB]) (Hn _))) .nil) ?_;simp only[go_sem])
 |(refine ah.one (uT _) (by kernel_rfl) rfl ?_;simp only[go_sem])
 |(refine ah.of (Dm (ft bk.ids) _ (zx _) (by rw[kB];omega)) (by kernel_rfl) rfl ?_;rintro r t ⟨⟨n,rfl⟩,rfl⟩;simp only[go_sem])
 |(refine aj.call (rs:=[.tmp 2]) Tryz.func99 rfl Tryz.ntmps99 rfl (by kernel_rfl) rfl rfl ?_;simp only[go_sem])
 |(refine aH.bY (fun h=>?_) (fun h=>?_)<;>simp only[h,go_sem]<;>(try simp only[dD] at h))
 |(refine aH.split (fun h=>?_) (fun h=>?_)<;>simp only[h,go_sem]<;>(try simp only[dD] at h))
 |((first|refine aG.nth ?_ (fun b hb=>?_)|with_reducible refine And.intro ?_ ?_);(focus(first|omega|(simp;done)|(simp[cA];done)));(try simp only[hb,go_sem]))
 |(
  refine aa.here 8 55 1 rfl ?_
  refine aa.sS 4 1 rfl ?_
  simp only[go_sem]
  refine aa.b6 (ι:=Nat×List Bs×Nat) [2,6,7,8,55,56,57,58,59,60,61,62,63,64,65,66,67,68,69,70,71,72,73,74,75,76,77,78,79,80,81,82,83,84,85,86,87,88,89,90,91,92,93,94] (fun⟨i,nl,m⟩=>[(54,i64 i),(4,.mu 2 1 0 nl.length (nl.length+m))]) (fun⟨i,nl,m⟩=>[some [.agg [aR bk.af,bZ bk.ai,.sl none 1 (bk.ids.map str),i64 bk.clock,i64 bk.bad]],some [.agg [.sl none 1 (bk.ids.map str)]],some (nl.map str++spare 1 m)]) (fun⟨i,nl,m⟩=>[(ft bk.ids).length]) (fun⟨i,nl,m⟩=>i≤bk.ai.length∧(bk.ai.take i).all (cd bk)=true∧nl=(bk.ai.take i).map (·.id)) (fun⟨i,nl,m⟩=>bk.ai.length-i) ((0,[],0)) ?_ ?_ ?_
  ·(try simp only[go_sem]);(repeat'(first|refine And.intro ?_ ?_|exact .inr (aM rfl)|exact .inr ⟨rfl,aM rfl⟩))
  ·exact⟨Nat.zero_le _,by simp,by simp⟩
  rintro⟨i,nl,m⟩ ⟨h1,h2,h3⟩
  simp only[go_sem]
  have hnl:nl.length=i:=by rw[h3,List.length_map,List.length_take];omega)
 |(
  refine⟨(i+1,nl++[b.id],mm),?_,?_,?_⟩
  ·(try simp only[go_sem]);(try rw[aq (by omega) (by omega)]);(repeat'(first|refine And.intro ?_ ?_|exact .inr rfl|exact .inr (aM rfl)|exact .inr V2))
  ·exact⟨by show i+1≤bk.ai.length;omega,nM (by assumption) h2 (U1 (by assumption) (by assumption) (by omega) (by omega) (by assumption)),by rw[h3,cp (by assumption)];simp⟩
  ·show bk.ai.length-(i+1)<bk.ai.length-i;omega)
 |(
  refine aa.ret ?_
  refine az.is ?_;simp only[go_sem,aB,aE,aF,aA,aC,aD]<;>(first
  |(rw[Tv (by first|(simp[fC, *];done)|(simp[fC];intros;omega))];done)
  |(rw[O0 (by assumption)];done)
  |(rw[xb hb (by first|(simp[cd, *];done)|(simp[cd];intros;omega))];done)
  |(rw[xb hb (KR (by assumption))];done)
  |(rw[sq,h3,List.take_of_length_le (by omega)];rw[List.take_of_length_le (by omega)] at h2;exact S9 (by simp[fC, *];omega) (by assumption) h2)))
 |(refine aa.ret ?_;refine bG.ret rfl ?_;simp only[go_sem])
 |(refine aj.of ?_;simp only[go_sem])
 |(refine fun(mm:Nat)=>?_;simp only[go_sem])
 |refine aa.fin (by assumption) ?_)
abbrev wV(w:Ws):AV:= .agg [i64 w.1,i64 w.2]
theorem p5{f:Dn}{acc sym:Bs}(h:f.live=false):¬(f.live=true∧f.acc=acc∧f.sym=sym):=by simp[h]
theorem qK{f:Dn}{acc sym:Bs}(h:¬f.acc=acc):¬(f.live=true∧f.acc=acc∧f.sym=sym):=fun h2=>h h2.2.1
theorem rB{f:Dn}{acc sym:Bs}(h:¬f.sym=sym):¬(f.live=true∧f.acc=acc∧f.sym=sym):=fun h2=>h h2.2.2
theorem uP{o:Od}{acc sym:Bs}(h:¬o.acc=acc):¬(o.acc=acc∧o.sym=sym):=fun h2=>h h2.1
theorem vm{o:Od}{acc sym:Bs}(h:¬o.sym=sym):¬(o.acc=acc∧o.sym=sym):=fun h2=>h h2.2
theorem yh{b:Bk}{acc sym:Bs}(h:aQ b=false):fF b acc sym=(0,0):=by unfold fF;rw[h];rfl
theorem mW(p q:Ws):ae E 70 [wV p,wV q] (fun r t=>r=wV (ec p q)∧t=[]):=by
 refine ae.av (n:=16) (rs:=[.cell 4 45]) Tryz.func70 rfl Tryz.ntmps70 rfl ?_
 repeat'(first
 |refine aa.ab fun K hK=>?_
 |(refine aa.region ?_;simp only[go_sem])
 |(refine hK _ ?_;clear hK K)
 |(
  refine aa.ret ?_
  refine az.is ?_;simp only[go_sem,aB,aE,aF,aA,aC,aD]<;>(simp[ec];done)))
theorem qc(y:Bool)(q:Int):ae E 109 [bl y,i64 q] (fun r t=>r=wV (dp y q)∧t=[]):=by
 refine ae.av (n:=10) (rs:=[.cell 4 45]) Tryz.func109 rfl Tryz.ntmps109 rfl ?_
 repeat'(first
 |refine aa.ab fun K hK=>?_
 |(refine aa.region ?_;simp only[go_sem])
 |(refine hK _ ?_;clear hK K)
 |refine aa.cond rfl (fun c=>?_) (fun c=>?_)<;>(try simp only[dD] at c)
 |refine aa.skip ?_
 |(
  refine aa.ret ?_
  refine az.is ?_;simp only[go_sem,aB,aE,aF,aA,aC,aD]<;>(simp[dp, *];done)))
theorem A3(bk:Bk)(f:Dn):ae E 110 [dn bk,bQ f] (fun r t=>r=bl (cu bk f)∧t=[]):=by
 refine ae.av (n:=19) (rs:=[.tmp 4]) Tryz.func110 rfl Tryz.ntmps110 rfl ?_
 repeat'(first
 |refine aa.ab fun K hK=>?_
 |(refine aa.region ?_;simp only[go_sem])
 |(refine hK _ ?_;clear hK K)
 |refine aa.cond rfl (fun c=>?_) (fun c=>?_)<;>first|exact Bool.noConfusion c|(try simp only[dD] at c)
 |refine aa.skip ?_
 |(refine aH.bY (fun h=>?_) (fun h=>?_)<;>simp only[h,go_sem]<;>(try simp only[dD] at h))
 |(
  refine aa.ret ?_
  refine az.is ?_;simp only[go_sem,aB,aE,aF,aA,aC,aD]<;>(first|(unfold cu;rw[if_pos (by omega)];done)|(unfold cu;rw[if_neg (by omega)];done))))
theorem Ju{bk:Bk}{f g:Dn}(h:g.time=f.time):ae E 110 [dn bk,bQ g] (fun r t=>r=bl (cu bk f)∧t=[]):=by
 have e:cu bk f=cu bk g:=by unfold cu;rw[h]
 rw[e];exact A3 bk g
theorem Cl(bk:Bk)(acc sym:Bs)(ho:bk.af.length≤9223372036854775807)(hf:bk.ai.length≤9223372036854775807)(hi:bk.ids.length≤9223372036854775807):ae E 42 [dn bk,str acc,str sym] (fun r t=>r=wV (fF bk acc sym)∧t=[]):=by
 refine ae.av (n:=84) (rs:=[.cell 6 45]) Tryz.func42 rfl Tryz.ntmps42 rfl ?_
 repeat'(first
 |refine aa.ab fun K hK=>?_
 |(
  refine aa.here 6 21 4 rfl ?_
  obtain⟨f,hb⟩:∃f,bk.ai[i]?=some f:=⟨_,List.getElem?_eq_getElem (by omega)⟩
  refine aa.region ?_;simp only[go_sem])
 |(
  refine aa.here 14 63 4 rfl ?_
  obtain⟨o,hc⟩:∃o,bk.af[j]?=some o:=⟨_,List.getElem?_eq_getElem (by omega)⟩
  refine aa.region ?_;simp only[go_sem])
 |(refine aa.region ?_;simp only[go_sem])
 |(refine aa.here 8 38 8 rfl ?_;refine aa.bc [0,1,2,3,4,5,6,7] [] (by kernel_rfl) (by kernel_rfl) rfl ?_;simp only[go_sem])
 |(refine aa.here 10 48 10 rfl ?_;refine aa.bc [0,1,2,3,4,5,6,7,8,9] [] (by kernel_rfl) (by kernel_rfl) rfl ?_;simp only[go_sem])
 |(refine aa.here 16 75 8 rfl ?_;refine aa.bc [0,1,2,3,4,5,6,7] [] (by kernel_rfl) (by kernel_rfl) rfl ?_;simp only[go_sem])
 |(refine hK _ ?_;clear hK K)
 |refine aa.block ?_
 |refine aa.cond rfl (fun c=>?_) (fun c=>?_)<;>first|exact Bool.noConfusion c|(try simp only[dD] at c)
 |refine aa.skip ?_
 |(refine aa.exit ?_;simp only[go_sem])
 |(refine ah.one (mE bk ho hf hi) (by kernel_rfl) rfl ?_;simp only[go_sem])
 |(refine ah.one (qc f.au f.al) (by kernel_rfl) rfl ?_;simp only[go_sem])
 |(refine ah.one (qc (!f.au) (IntKind.i64.wrap (0-f.al))) (by kernel_rfl) rfl ?_;simp only[go_sem])
 |(refine ah.one (qc o.au (db o)) (by kernel_rfl) rfl ?_;simp only[go_sem])
 |(refine ah.one (mW w (dp f.au f.al)) (by kernel_rfl) rfl ?_;simp only[go_sem])
 |(refine ah.one (mW (ec w (dp f.au f.al)) (dp (!f.au) (IntKind.i64.wrap (0-f.al)))) (by kernel_rfl) rfl ?_;simp only[go_sem])
 |(refine ah.one (mW u (dp o.au (db o))) (by kernel_rfl) rfl ?_;simp only[go_sem])
 |(refine ah.one (Ju (bk:=bk) (f:=f) (g:=⟨f.id,f.ord,f.acc,f.sym,f.au,f.al,f.aw,f.time,true⟩) rfl) (by kernel_rfl) rfl ?_;simp only[go_sem])
 |(refine ah.one (zk o) (by kernel_rfl) rfl ?_;simp only[go_sem])
 |(refine aH.split (fun h=>?_) (fun h=>?_)<;>simp only[h,go_sem]<;>(try simp only[dD] at h))
 |(refine aG.bA (by assumption) ?_;(try simp only[go_sem]))
 |((with_reducible refine And.intro ?_ ?_);(focus((simp;done)));(try simp only[hb,go_sem]))
 |(
  refine aa.here 5 20 1 rfl ?_
  refine aa.b6 (ι:=Nat×Ws) [9,20,21,22,23,24,25,26,27,28,29,30,31,32,33,34,35,36,37,38,39,40,41,42,43,44,45,46,47,48,49,50,51,52,53,54,55,56,57] (fun⟨i,w⟩=>[(19,i64 i)]) (fun⟨i,w⟩=>[some [.agg [aR bk.af,bZ bk.ai,.sl none 1 (bk.ids.map str),i64 bk.clock,i64 bk.bad]],some [.agg [i64 0,i64 0]],some [.agg [i64 w.1,i64 w.2]]]) (fun⟨i,w⟩=>[]) (fun⟨i,w⟩=>i≤bk.ai.length∧w=dO bk acc sym i) (fun⟨i,w⟩=>bk.ai.length-i) ((0,((0,0):Ws))) ?_ ?_ ?_
  ·(try simp only[go_sem]);(repeat'(first|refine And.intro ?_ ?_|trivial|exact .inr (aM rfl)));done
  ·exact⟨Nat.zero_le _,rfl⟩
  rintro⟨i,w⟩ ⟨h1,h2⟩
  simp only[go_sem]
  have hr:aQ bk=true:=by assumption)
 |(
  refine aa.here 13 62 1 rfl ?_
  refine aa.b6 (ι:=Nat×Ws) [11,62,63,64,65,66,67,68,69,70,71,72,73,74,75,76,77,78,79,80,81,82] (fun⟨j,u⟩=>[(61,i64 j)]) (fun⟨j,u⟩=>[some [.agg [aR bk.af,bZ bk.ai,.sl none 1 (bk.ids.map str),i64 bk.clock,i64 bk.bad]],some [.agg [i64 0,i64 0]],some [.agg [i64 u.1,i64 u.2]]]) (fun⟨j,u⟩=>[]) (fun⟨j,u⟩=>j≤bk.af.length∧u=dV bk acc sym j) (fun⟨j,u⟩=>bk.af.length-j) ((0,w)) ?_ ?_ ?_
  ·(try simp only[go_sem]);(repeat'(first|refine And.intro ?_ ?_|trivial|exact .inr (aM rfl)));done
  ·exact⟨Nat.zero_le _,Ic (by omega) h2⟩
  rintro⟨j,u⟩ ⟨g1,g2⟩
  simp only[go_sem])
 |(
  first
  |(refine⟨(i+1,w),?_,⟨by show i+1≤bk.ai.length;omega,EL hb h2 (by first|exact p5 (by assumption)|exact qK (by assumption)|exact rB (by assumption))⟩,by show bk.ai.length-(i+1)<bk.ai.length-i;omega⟩
    (try simp only[go_sem]);(try rw[aq (by omega) (by omega)]);(repeat'(first|refine And.intro ?_ ?_|exact .inr rfl|trivial|exact .inr (aM rfl)));done)
  |(refine⟨(i+1,ec w (dp f.au f.al)),?_,⟨by show i+1≤bk.ai.length;omega,L5 hr hb h2 ⟨by assumption,by assumption,by assumption⟩ (by assumption)⟩,by show bk.ai.length-(i+1)<bk.ai.length-i;omega⟩
    (try simp only[go_sem]);(try rw[aq (by omega) (by omega)]);(repeat'(first|refine And.intro ?_ ?_|exact .inr rfl|trivial|exact .inr (aM rfl)));done)
  |(refine⟨(i+1,ec (ec w (dp f.au f.al)) (dp (!f.au) (IntKind.i64.wrap (0-f.al)))),?_,⟨by show i+1≤bk.ai.length;omega,Cn hr hb h2 ⟨by assumption,by assumption,by assumption⟩ (by assumption)⟩,by show bk.ai.length-(i+1)<bk.ai.length-i;omega⟩
    (try simp only[go_sem]);(try rw[aq (by omega) (by omega)]);(repeat'(first|refine And.intro ?_ ?_|exact .inr rfl|trivial|exact .inr (aM rfl)));done))
 |(
  first
  |(refine⟨(j+1,u),?_,⟨by show j+1≤bk.af.length;omega,WV hc g2 (by first|exact uP (by assumption)|exact vm (by assumption))⟩,by show bk.af.length-(j+1)<bk.af.length-j;omega⟩
    (try simp only[go_sem]);(try rw[aq (by omega) (by omega)]);(repeat'(first|refine And.intro ?_ ?_|exact .inr rfl|trivial|exact .inr (aM rfl)));done)
  |(refine⟨(j+1,ec u (dp o.au (db o))),?_,⟨by show j+1≤bk.af.length;omega,JK hr hc g2 ⟨by assumption,by assumption⟩⟩,by show bk.af.length-(j+1)<bk.af.length-j;omega⟩
    (try simp only[go_sem]);(try rw[aq (by omega) (by omega)]);(repeat'(first|refine And.intro ?_ ?_|exact .inr rfl|trivial|exact .inr (aM rfl)));done))
 |(
  refine aa.ret ?_
  refine az.is ?_;simp only[go_sem,aB,aE,aF,aA,aC,aD]<;>(first
  |(rw[←Nq hr (by omega) g2];simp;done)
  |(rw[yh (by assumption)];simp;done)))
 |refine aa.fin (by assumption) ?_)
abbrev bD(p:Po):AV:= .agg [str p.acc,str p.sym,i64 p.al,i64 p.value,bl p.over]
theorem oc{f:Dn}(h:f.au=true):fR f=f.al:=by unfold fR;rw[h];rfl
theorem mT{f:Dn}(h:f.au=false):fR f= -f.al:=by unfold fR;rw[h];rfl
theorem Kk(bk:Bk)(acc sym:Bs)(ho:bk.af.length≤9223372036854775807)(hf:bk.ai.length≤9223372036854775807)(hi:bk.ids.length≤9223372036854775807):ae E 72 [dn bk,str acc,str sym] (fun r t=>r=bD (cz bk acc sym)∧t=[]):=by
 refine ae.av (n:=98) (rs:=[.cell 6 49]) Tryz.func72 rfl Tryz.ntmps72 rfl ?_
 repeat'(first
 |refine aa.ab fun K hK=>?_
 |(
  refine aa.here 7 31 4 rfl ?_
  obtain⟨f,hb⟩:∃f,bk.ai[i]?=some f:=⟨_,List.getElem?_eq_getElem (by omega)⟩
  have hfa:=j8 hr f (List.mem_of_getElem? hb)
  have hw:IntKind.i64.wrap (0-f.al)= -f.al:=by rw[aq (by omega) (by omega)];omega
  refine aa.region ?_;simp only[go_sem])
 |(
  refine aa.here 11 53 3 rfl ?_
  refine aa.region ?_;simp only[go_sem,hw])
 |(refine aa.region ?_;simp only[go_sem])
 |(refine hK _ ?_;clear hK K)
 |refine aa.block ?_
 |refine aa.cond rfl (fun c=>?_) (fun c=>?_)<;>first|exact Bool.noConfusion c|(try simp only[dD] at c)
 |refine aa.skip ?_
 |(refine aa.exit ?_;simp only[go_sem])
 |(refine ah.one (mE bk ho hf hi) (by kernel_rfl) rfl ?_;simp only[go_sem])
 |(refine ah.one (w4 _ _) (by kernel_rfl) rfl ?_;simp only[go_sem])
 |(refine ah.one (qf qs (by omega)) (by kernel_rfl) rfl ?_;simp only[go_sem])
 |(refine ah.one (qf vs (by omega)) (by kernel_rfl) rfl ?_;simp only[go_sem])
 |(refine aH.split (fun h=>?_) (fun h=>?_)<;>simp only[h,go_sem]<;>(try simp only[dD] at h))
 |(refine aG.bA (by assumption) ?_;(try simp only[go_sem]))
 |((with_reducible refine And.intro ?_ ?_);(focus(first|omega|(simp;done)));(try simp only[hb,go_sem]))
 |(
  refine aa.here 6 30 1 rfl ?_
  refine aa.fb 8 1 rfl ?_
  refine aa.fb 9 1 rfl ?_
  simp only[go_sem]
  refine aa.b6 (ι:=Nat×List Int×List Int) [11,12,13,14,30,31,32,33,34,35,36,37,38,39,40,41,42,43,44,45,46,47,48,49,50,51,52,53,54,55,56,57,58,59,60,61,62,63,64,65,66,67,68,69,70,71,72,73,74] (fun⟨i,qs,vs⟩=>[(29,i64 i),(8,.sl (some 0) 1 (qs.map i64)),(9,.sl (some 1) 1 (vs.map i64))]) (fun⟨i,qs,vs⟩=>[some [.agg [aR bk.af,bZ bk.ai,.sl none 1 (bk.ids.map str),i64 bk.clock,i64 bk.bad]],some [.agg [str [],str [],i64 0,i64 0,bl false]],some [.agg [str acc,str sym,i64 0,i64 0,bl false]]]) (fun⟨i,qs,vs⟩=>[qs.length,vs.length]) (fun⟨i,qs,vs⟩=>gx bk acc sym i qs vs) (fun⟨i,qs,vs⟩=>bk.ai.length-i) ((0,[],[])) ?_ ?_ ?_
  ·(try simp only[go_sem]);(repeat'(first|refine And.intro ?_ ?_|trivial|exact .inr (aM rfl)));done
  ·exact gx.zero
  rintro⟨i,qs,vs⟩ hg
  simp only[go_sem]
  have hr:aQ bk=true:=by assumption
  have hgl:=hg.len hr)
 |(
  first
  |(refine⟨(i+1,qs,vs),?_,hg.no hb (by first|exact p5 (by assumption)|exact qK (by assumption)|exact rB (by assumption)),by show bk.ai.length-(i+1)<bk.ai.length-i;omega⟩
    (try simp only[go_sem]);(try rw[aq (by omega) (by omega)]);(repeat'(first|refine And.intro ?_ ?_|exact .inr rfl|trivial|exact .inr (aM rfl)));done)
  |(refine⟨(i+1,qs++[f.al],vs++[(bW (f.al) f.aw).1]),?_,hg.yes hb ⟨by assumption,by assumption,by assumption⟩ (oc (by assumption)) (by assumption),by show bk.ai.length-(i+1)<bk.ai.length-i;omega⟩
    (try simp only[go_sem]);(try rw[aq (by omega) (by omega)]);(repeat'(first|refine And.intro ?_ ?_|exact .inr rfl|trivial|exact .inr (aM rfl)|(simp;done)));done)
  |(refine⟨(i+1,qs++[-f.al],vs++[(bW (-f.al) f.aw).1]),?_,hg.yes hb ⟨by assumption,by assumption,by assumption⟩ (mT (by assumption)) (by assumption),by show bk.ai.length-(i+1)<bk.ai.length-i;omega⟩
    (try simp only[go_sem]);(try rw[aq (by omega) (by omega)]);(repeat'(first|refine And.intro ?_ ?_|exact .inr rfl|trivial|exact .inr (aM rfl)|(simp;done)));done))
 |(
  refine aa.ret ?_
  refine az.is ?_;simp only[go_sem,aB,aE,aF,aA,aC,aD]<;>(first
  |(rw[IQ (by assumption)];simp;done)
  |(rw[zn hr hb ⟨by assumption,by assumption,by assumption⟩ (oc (by assumption)) (by assumption)];simp;done)
  |(rw[zn hr hb ⟨by assumption,by assumption,by assumption⟩ (mT (by assumption)) (by assumption)];simp;done)
  |(rw[BZ hg hr (by omega) (.inl (by assumption))];simp;done)
  |(rw[BZ hg hr (by omega) (.inr (by assumption))];simp;done)
  |(rw[Vu hg hr (by omega) (by assumption) (by assumption)];simp;done)))
 |refine aa.fin (by assumption) ?_)
theorem Og(l:List Dn):∀e∈l.map bQ,e.leaves.length=9∧∀y∈e.leaves,∃z,y= .v z:=by
 intro e he
 obtain⟨o,_,rfl⟩:=List.mem_map.1 he
 refine⟨rfl,fun x hx=>?_⟩
 simp only[AV.leaves,List.mem_cons,List.not_mem_nil,or_false] at hx
 rcases hx with rfl|rfl|rfl|rfl|rfl|rfl|rfl|rfl|rfl<;>exact⟨_,rfl⟩
theorem RO{b:Bk}(h:aQ b=true):fC b=true∧(b.af.length≤64∧b.ai.length≤256∧b.ids.length≤256)∧∀f∈b.ai,0≤f.time∧f.time≤4611686018427387904:=by
 simp only[aQ,Bool.and_eq_true] at h
 obtain⟨⟨⟨h1,h2⟩,h3⟩,h4⟩:=h
 refine⟨h1,?_,fun f hf=>?_⟩
 ·simp only[fC,Bool.and_eq_true,decide_eq_true_eq] at h1
  exact⟨ly (by simp[h1]),by omega,by omega⟩
 ·have:=List.all_eq_true.1 h3 f hf
  simp only[fC,cd,Bool.and_eq_true,decide_eq_true_eq] at h1 this
  omega
theorem y0{b:Bk}{x:Ex}(h:aQ b=false∨dh x=false):aY b x=(b,0):=by
 unfold aY;rcases h with h|h<;>simp[h]
theorem Vv{b:Bk}{x:Ex}(h1:aQ b=true)(h2:dh x=true):aY b x=bM b x:=by
 unfold aY;simp[h1,h2]
theorem eV(l:List Od)(hl:l.length≤1000000):ae E 126 [.sl none 8 (l.map aW)] (fun r t=>r= .sl none 8 (l.map aW)∧t=[]):=by
 refine ae.av (n:=8) (rs:=[.tmp 2]) Tryz.func126 rfl Tryz.ntmps126 rfl ?_
 repeat'(first
 |refine aa.ab fun K hK=>?_
 |(refine aa.region ?_;simp only[go_sem])
 |(refine hK _ ?_;clear hK K)
 |refine aa.cond rfl (fun c=>?_) (fun c=>?_)<;>(try simp only[dD] at c)
 |refine aa.skip ?_
 |((with_reducible refine And.intro ?_ ?_);(focus(first|omega|(simp;done)));(try simp only[hb,go_sem]))
 |(
  refine aa.ret ?_
  refine az.is ?_;simp only[go_sem,aB,aE,aF,aA,aC,aD]<;>(first
  |(have he:l=[]:=by
     apply Classical.byContradiction;intro hne
     have:=hbb (by simpa using hne)
     rw[this] at c;exact absurd c (by simp)
    simp[he];done)))
 |(refine fun(bb:Bool) (hbb:_→bb=false)=>?_))
theorem wq(l:List Dn)(hl:l.length≤1000000):ae E 127 [.sl none 9 (l.map bQ)] (fun r t=>r= .sl (some 0) 9 (l.map bQ)∧t=[l.length]):=by
 refine ae.av (n:=8) (rs:=[.tmp 2]) Tryz.func127 rfl Tryz.ntmps127 rfl ?_
 repeat'(first
 |refine aa.ab fun K hK=>?_
 |(refine aa.region ?_;simp only[go_sem])
 |(refine hK _ ?_;clear hK K)
 |refine aa.cond rfl (fun c=>?_) (fun c=>?_)<;>(try simp only[dD] at c)
 |refine aa.skip ?_
 |((with_reducible refine And.intro ?_ ?_);(focus(first|omega|(simp;done)));(try simp only[hb,go_sem]))
 |(
  refine aa.ret ?_
  simp only[go_sem]
  first
  |(have he:l=[]:=by
     apply Classical.byContradiction;intro hne
     have:=hbb (by simpa using hne)
     rw[this] at c;exact absurd c (by simp)
    exact⟨[(false,9)],.sl (some 0) 9 [],rfl,rfl,by rw[he];rfl,by rw[he];rfl⟩)
  |exact⟨[(true,0)],.sl (some 0) 9 _,rfl,⟨rfl,rfl,rfl⟩,by simp,by simp[gr]⟩)
 |(refine fun(bb:Bool) (hbb:_→bb=false)=>?_))
theorem ux(l:List Bs)(hl:l.length≤1000000):ae E 128 [.sl none 1 (l.map str)] (fun r t=>r= .sl (some 0) 1 (l.map str)∧t=[l.length]):=by
 refine ae.av (n:=8) (rs:=[.tmp 2]) Tryz.func128 rfl Tryz.ntmps128 rfl ?_
 repeat'(first
 |refine aa.ab fun K hK=>?_
 |(refine aa.region ?_;simp only[go_sem])
 |(refine hK _ ?_;clear hK K)
 |refine aa.cond rfl (fun c=>?_) (fun c=>?_)<;>(try simp only[dD] at c)
 |refine aa.skip ?_
 |((with_reducible refine And.intro ?_ ?_);(focus(first|omega|(simp;done)));(try simp only[hb,go_sem]))
 |(
  refine aa.ret ?_
  simp only[go_sem]
  first
  |(have he:l=[]:=by
     apply Classical.byContradiction;intro hne
     have:=hbb (by simpa using hne)
     rw[this] at c;exact absurd c (by simp)
    exact⟨[(false,1)],.sl (some 0) 1 [],rfl,rfl,by rw[he];rfl,by rw[he];rfl⟩)
  |exact⟨[(true,0)],.sl (some 0) 1 _,rfl,⟨rfl,rfl,rfl⟩,by simp,by simp[gr]⟩)
 |(refine fun(bb:Bool) (hbb:_→bb=false)=>?_))
theorem oT(bk:Bk)(x:Ex)(ho:bk.af.length≤1000000)(hf:bk.ai.length≤1000000)(hi:bk.ids.length≤1000000):ae E 41 [dn bk,an x] (fun r t=>r= .ax [dn (aY bk x).1,i64 (aY bk x).2]∧t=[]):=by
 refine ae.av (n:=22) (rs:=[.cell 4 26,.tmp 5]) Tryz.func41 rfl Tryz.ntmps41 rfl ?_
 repeat'(first
 |refine aa.ab fun K hK=>?_
 |(
  refine aa.here 2 9 8 rfl ?_
  refine aa.ik [2,0,5,1] (by decide) rfl rfl ?_
  simp only[go_sem,nm]
  refine aa.region ?_;simp only[go_sem])
 |(
  refine aa.here 3 17 3 rfl ?_
  refine aa.eL 1 1 (jd:=2) (k:=9) (n:=bk.ai.length) (cap:=bk.ai.length+m) _ (aT bk m) (by decide) rfl rfl rfl (by simp[aT]) (by rw[rF];exact pH _) ?_
  rw[rF]
  simp only[go_sem]
  refine aa.region ?_;simp only[go_sem])
 |(
  refine aa.here 5 20 4 rfl ?_
  refine aa.eL 1 1 (jd:=2) (k:=9) (n:=b2.ai.length) (cap:=b2.ai.length+m2) _ (aT b2 m2) (by decide) rfl rfl rfl (by simp[aT]) (by rw[rF];exact pH _) ?_
  rw[rF]
  simp only[go_sem]
  refine aa.region ?_;simp only[go_sem])
 |(
  refine aa.here 4 18 3 rfl ?_
  have hr:=RO (by assumption)
  refine aa.weaken (t:=⟨[.any,.any,.ptr 1 0 0,.ptr 3 0 0,.ptr 0 0 0,.any,.any,.any,.any,.any,.any,.any,.any,.any,.any,.any,.any,.any,.any,.any,.any,.any],[Z0,some [aX bk m],some (aT bk m),some [an x]],[bk.ids.length],fun _=>none,none,[]⟩) ⟨⟨.inl rfl,.inl rfl,.inr ⟨rfl,rfl⟩,.inr ⟨rfl,rfl⟩,.inr ⟨rfl,rfl⟩,.inl rfl,.inl rfl,.inl rfl,.inl rfl,.inl rfl,.inl rfl,.inl rfl,.inl rfl,.inl rfl,.inl rfl,.inl rfl,.inl rfl,.inl rfl,.inl rfl,.inl rfl,.inl rfl,.inl rfl,trivial⟩,vj oK,⟨rfl,trivial⟩,rfl,rfl,rfl,rfl⟩ ?_
  refine aa.bq ?_
  refine aj.at 3 1 rfl ?_
  simp only[go_sem]
  refine GV (b:=bk) (x:=x) (m:=m) rfl rfl (by assumption) hr.2.2 (by omega) (by omega) (by omega) (nw (n:=0) (by decide) rfl rfl) ?_
  intro b2 e2 m2 hb2
  have hlen:=zj bk x
  rw[hb2] at hlen
  refine aj.of ?_
  simp only[go_sem])
 |(refine aa.here 1 7 3 rfl ?_;refine aa.bq ?_;refine aj.at 3 1 rfl ?_;simp only[go_sem])
 |(refine aa.region ?_;simp only[go_sem])
 |(refine hK _ ?_;clear hK K)
 |refine aa.cond rfl (fun c=>?_) (fun c=>?_)<;>first|exact Bool.noConfusion c|(try simp only[dD] at c)
 |refine aa.skip ?_
 |(refine ah.gS (mE bk (by omega) (by omega) (by omega)) (by kernel_rfl) rfl (.cons (.agg (.cons (.clean rfl) (.cons (.iY rfl (by simp) (pH _)) (.cons (.clean rfl) (.cons (.clean rfl) (.cons (.clean rfl) .nil)))))) .nil) ?_;simp only[go_sem])
 |(refine ah.one (XX _) (by kernel_rfl) rfl ?_;simp only[go_sem])
 |(refine ah.one (eV _ (by(assumption))) (by kernel_rfl) rfl ?_;simp only[go_sem])
 |(refine ah.take (wq bk.ai (by omega)) (by kernel_rfl) rfl (.cons (.one (.clean rfl)) .nil) ?_;rintro r t ⟨rfl,rfl⟩;refine⟨0,9,_,rfl,by simp,Og _,fun m=>?_⟩;simp only[go_sem,List.length_map])
 |(refine ah.of (ux bk.ids (by omega)) (by kernel_rfl) rfl ?_;rintro r t ⟨rfl,rfl⟩;simp only[go_sem])
 |(refine aj.call (rs:=[.cell 2 26]) Tryz.func106 rfl Tryz.ntmps106 rfl (by kernel_rfl) rfl rfl ?_;simp only[go_sem])
 |(refine aH.split (fun h=>?_) (fun h=>?_)<;>simp only[h,go_sem]<;>(try simp only[dD] at h))
 |(
  refine aa.ret ?_
  refine az.is ?_;simp only[go_sem,aB,aE,aF,aA,aC,aD]<;>(first
  |(rw[y0 (.inl (by assumption))];simp;done)
  |(rw[y0 (.inr (by assumption))];simp;done)
  |(rw[Vv (by assumption) (by assumption),hb2];simp;done)))
 |(refine aa.ret ?_;refine bG.ret rfl ?_;simp only[go_sem])
 |(refine aj.of ?_;simp only[go_sem]))
theorem qj{o:Od}(h:bn o=true):0≤o.done∧o.done≤o.al∧o.al≤1099511627776:=by
 simp only[bn,bJ,Bool.and_eq_true,decide_eq_true_eq] at h;omega
theorem yq{α:Type}{l:List α}{p:α→Bool}{i:Nat}{x:α}(hb:l[i]?=some x)(h:p x=false):l.all p=false:=List.all_eq_false.2 ⟨x,List.mem_of_getElem? hb,by simp[h]⟩
theorem Ul(l:List Od):ae E 32 [aR l] (fun r t=>r=bl (decide (l.length≤80)&&l.all (fun o:Od=>decide (o.id.length≤100)&&decide (o.acc.length≤100)&&decide (o.sym.length≤100)))∧t=[]):=by
 refine ae.av (n:=38) (rs:=[.tmp 2]) Tryz.func32 rfl Tryz.ntmps32 rfl ?_
 repeat'(first
 |refine aa.ab fun K hK=>?_
 |(refine aa.region ?_;simp only[go_sem])
 |(refine hK _ ?_;clear hK K)
 |refine aa.block ?_
 |refine aa.cond rfl (fun c=>?_) (fun c=>?_)<;>first|exact Bool.noConfusion c|(try simp only[dD] at c)
 |refine aa.skip ?_
 |(refine aa.exit ?_;simp only[go_sem])
 |(refine aH.bY (fun h=>?_) (fun h=>?_)<;>simp only[h,go_sem]<;>(try simp only[dD] at h))
 |(refine aG.bA (by assumption) ?_;(try simp only[go_sem]))
 |((first|refine aG.nth ?_ (fun b hb=>?_)|with_reducible refine And.intro ?_ ?_);(focus(first|omega|(simp;done)));(try simp only[hb,go_sem]))
 |(
  refine aa.here 4 7 4 rfl ?_
  refine aa.cr (ι:=Nat) [2,7,8,9,10,11,12,13,14,15,16,17,18,19,20,21,22,23,24,25,26,27,28,29,30,31,32,33,34,35,36,37] (fun(i:Nat)=>[(3,i64 i)]) (fun(i:Nat)=>i≤l.length∧l.length≤80∧(l.take i).all (fun o:Od=>decide (o.id.length≤100)&&decide (o.acc.length≤100)&&decide (o.sym.length≤100))=true) (fun(i:Nat)=>l.length-i) (0) ?_ ?_ ?_
  ·(try simp only[go_sem]);(repeat'(first|fail));done
  ·exact⟨Nat.zero_le _,by omega,by simp⟩
  rintro i ⟨h1,h2,h3⟩
  simp only[go_sem])
 |(
  refine⟨i+1,?_,?_,?_⟩
  ·(try simp only[go_sem]);(try rw[aq (by omega) (by omega)]);(repeat'(exact .inr rfl));done
  ·exact⟨by omega,h2,nM hb h3 (by simp;omega)⟩
  ·(try simp only[]);omega)
 |(
  refine aa.ret ?_
  refine az.is ?_;simp only[go_sem,aB,aE,aF,aA,aC,aD]<;>(first
  |(rw[decide_eq_false (by omega)];rfl)
  |(rw[yq hb (by simp;omega),Bool.and_false];done)
  |(rw[List.take_of_length_le (by omega)] at h3;rw[h3,decide_eq_true (by omega)];rfl)))
 |refine aa.fin (by assumption) ?_)
theorem Hq(l:List Od)(acc sym:Bs)(hl:l.length≤9223372036854775807):ae E 156 [aR l,str acc,str sym] (fun r t=>r=wV (ke l acc sym)∧t=[]):=by
 refine ae.av (n:=42) (rs:=[.cell 6 45]) Tryz.func156 rfl Tryz.ntmps156 rfl ?_
 repeat'(first
 |refine aa.ab fun K hK=>?_
 |(
  refine aa.here 6 18 4 rfl ?_
  obtain⟨o,hc⟩:∃o,l[j]?=some o:=⟨_,List.getElem?_eq_getElem (by omega)⟩
  have hm:=qj (kX hr hc)
  have hw:IntKind.i64.wrap (o.al-o.done)=o.al-o.done:=aq (by omega) (by omega)
  refine aa.region ?_;simp only[go_sem])
 |(
  refine aa.here 8 30 11 rfl ?_
  refine aa.bc [0,1,2,3,4,5,6,7,8,9,10] [] (by kernel_rfl) (by kernel_rfl) rfl ?_;simp only[go_sem,hw])
 |(refine aa.region ?_;simp only[go_sem])
 |(refine hK _ ?_;clear hK K)
 |refine aa.block ?_
 |refine aa.cond rfl (fun c=>?_) (fun c=>?_)<;>first|exact Bool.noConfusion c|(try simp only[dD] at c)
 |refine aa.skip ?_
 |(refine aa.exit ?_;simp only[go_sem])
 |(refine ah.one (kZ l hl) (by kernel_rfl) rfl ?_;simp only[go_sem])
 |(refine ah.one (qc o.au (o.al-o.done)) (by kernel_rfl) rfl ?_;simp only[go_sem])
 |(refine ah.one (mW u (dp o.au (o.al-o.done))) (by kernel_rfl) rfl ?_;simp only[go_sem])
 |(refine aH.split (fun h=>?_) (fun h=>?_)<;>simp only[h,go_sem]<;>(try simp only[dD] at h))
 |(refine aG.bA (by assumption) ?_;(try simp only[go_sem]))
 |((with_reducible refine And.intro ?_ ?_);(focus((simp;done)));(try simp only[hb,go_sem]))
 |(
  refine aa.here 5 17 1 rfl ?_
  refine aa.b6 (ι:=Nat×Ws) [9,17,18,19,20,21,22,23,24,25,26,27,28,29,30,31,32,33,34,35,36,37,38,39,40] (fun⟨j,u⟩=>[(16,i64 j)]) (fun⟨j,u⟩=>[some [.agg [i64 0,i64 0]],some [.agg [i64 u.1,i64 u.2]]]) (fun⟨j,u⟩=>[]) (fun⟨j,u⟩=>j≤l.length∧u=fD l acc sym j) (fun⟨j,u⟩=>l.length-j) ((0,((0,0):Ws))) ?_ ?_ ?_
  ·(try simp only[go_sem]);(repeat'(trivial));done
  ·exact⟨Nat.zero_le _,rfl⟩
  rintro⟨j,u⟩ ⟨g1,g2⟩
  simp only[go_sem]
  have hr:aU l=true:=by assumption)
 |(
  first
  |(refine⟨(j+1,u),?_,⟨by show j+1≤l.length;omega,xJ hc g2 (by first|exact uP (by assumption)|exact vm (by assumption))⟩,by show l.length-(j+1)<l.length-j;omega⟩
    (try simp only[go_sem]);(try rw[aq (by omega) (by omega)]);(repeat'(first|refine And.intro ?_ ?_|exact .inr rfl|trivial|exact .inr (aM rfl)));done)
  |(refine⟨(j+1,ec u (dp o.au (o.al-o.done))),?_,⟨by show j+1≤l.length;omega,vw hr hc g2 ⟨by assumption,by assumption⟩⟩,by show l.length-(j+1)<l.length-j;omega⟩
    (try simp only[go_sem]);(try rw[aq (by omega) (by omega)]);(repeat'(first|refine And.intro ?_ ?_|exact .inr rfl|trivial|exact .inr (aM rfl)));done))
 |(
  refine aa.ret ?_
  refine az.is ?_;simp only[go_sem,aB,aE,aF,aA,aC,aD]<;>(first
  |(rw[←AE hr (by omega) g2];simp;done)
  |(rw[wa (by assumption)];simp;done)))
 |refine aa.fin (by assumption) ?_)
abbrev bd(x:Lm):AV:= .agg [str x.acc,str x.sym,i64 x.kv,i64 x.short,i64 x.al,i64 x.value]
abbrev bL(l:List Lm):AV:= .sl none 6 (l.map bd)
abbrev aN(v:Vn):AV:= .agg [aR v.book.af,bZ v.book.ai,.sl none 1 (v.book.ids.map str),i64 v.book.clock,i64 v.book.bad,aR v.ar,i64 v.last,bl v.br]
abbrev eD(l:List Vn):AV:= .sl none 8 (l.map aN)
abbrev aL(g:Gt):AV:= .agg [eD g.ak,bL g.aP,bl g.kill,i64 g.now,i64 g.pat]
theorem sR(s u:Bs):ae E 132 [str s,str u] (fun r t=>r=i64 (gk s u)∧t=[]):=by
 refine ae.av (n:=20) (rs:=[.tmp 4]) Tryz.func132 rfl Tryz.ntmps132 rfl ?_
 repeat'(first
 |refine aa.ab fun K hK=>?_
 |(refine aa.region ?_;simp only[go_sem,Go.Proofs.bytesLess_eq])
 |(refine hK _ ?_;clear hK K)
 |refine aa.cond rfl (fun c=>?_) (fun c=>?_)<;>first|exact Bool.noConfusion c|(try simp only[dD] at c)
 |refine aa.skip ?_
 |(refine ah.one (BN _) (by kernel_rfl) rfl ?_;simp only[go_sem,Go.Proofs.bytesLess_eq])
 |(
  refine aa.ret ?_
  refine az.is ?_;simp only[go_sem,aB,aE,aF,aA,aC,aD]<;>(simp only[gk];(try simp only[decide_eq_true_eq,decide_eq_false_iff_not,Bool.or_eq_true,Bool.or_eq_false_iff,not_or,Bool.not_eq_true,Bool.not_eq_false] at *);first|(rw[if_pos (by assumption)];done)|(simp_all;done)|(rcases ‹_∨_› with h3|h3<;>simp_all;done))))
theorem PM(s:Bs):ae E 189 [str s] (fun r t=>r=bl (gK s)∧t=[]):=by
 refine ae.av (n:=10) (rs:=[.tmp 2]) Tryz.func189 rfl Tryz.ntmps189 rfl ?_
 repeat'(first
 |refine aa.ab fun K hK=>?_
 |(refine aa.region ?_;simp only[go_sem])
 |(refine hK _ ?_;clear hK K)
 |(refine aH.bY (fun h=>?_) (fun h=>?_)<;>simp only[h,go_sem]<;>(try simp only[dD] at h))
 |(
  refine aa.ret ?_
  refine az.is ?_;simp only[go_sem,aB,aE,aF,aA,aC,aD]<;>(simp_all[gK]<;>omega)))
theorem Nr(n:Int):ae E 190 [i64 n] (fun r t=>r=bl (bJ n)∧t=[]):=by
 refine ae.av (n:=9) (rs:=[.tmp 2]) Tryz.func190 rfl Tryz.ntmps190 rfl ?_
 repeat'(first
 |refine aa.ab fun K hK=>?_
 |(refine aa.region ?_;simp only[go_sem])
 |(refine hK _ ?_;clear hK K)
 |(refine aH.split (fun h=>?_) (fun h=>?_)<;>simp only[h,go_sem]<;>(try simp only[dD] at h))
 |(
  refine aa.ret ?_
  refine az.is ?_;simp only[go_sem,aB,aE,aF,aA,aC,aD]<;>(simp_all[bJ]<;>omega)))
theorem sB(x:Lm):ae E 146 [bd x] (fun r t=>r=bl (dW x)∧t=[]):=by
 refine ae.av (n:=31) (rs:=[.tmp 2]) Tryz.func146 rfl Tryz.ntmps146 rfl ?_
 repeat'(first
 |refine aa.ab fun K hK=>?_
 |(refine aa.region ?_;simp only[go_sem])
 |(refine hK _ ?_;clear hK K)
 |(refine ah.one (PM _) (by kernel_rfl) rfl ?_;simp only[go_sem])
 |(refine ah.one (Nr _) (by kernel_rfl) rfl ?_;simp only[go_sem])
 |(refine aH.split (fun h=>?_) (fun h=>?_)<;>simp only[h,go_sem]<;>(try simp only[dD] at h))
 |(
  refine aa.ret ?_
  refine az.is ?_;simp only[go_sem,aB,aE,aF,aA,aC,aD]<;>(simp_all[dW])))
theorem vQ(x y:Lm):ae E 148 [bd x,bd y] (fun r t=>r=i64 (bw x y)∧t=[]):=by
 refine ae.av (n:=19) (rs:=[.tmp 4]) Tryz.func148 rfl Tryz.ntmps148 rfl ?_
 repeat'(first
 |refine aa.ab fun K hK=>?_
 |(refine aa.region ?_;simp only[go_sem])
 |(refine hK _ ?_;clear hK K)
 |refine aa.cond rfl (fun c=>?_) (fun c=>?_)<;>(try simp only[dD] at c)
 |refine aa.skip ?_
 |(refine ah.one (sR _ _) (by kernel_rfl) rfl ?_;simp only[go_sem])
 |(
  refine aa.ret ?_
  refine az.is ?_;simp only[go_sem,aB,aE,aF,aA,aC,aD]<;>(simp only[bw,ee];simp_all)))
theorem wH(a b:Int):ae E 96 [i64 a,i64 b] (fun r t=>r= .ax [i64 (gv a b).1,bl (gv a b).2]∧t=[]):=by
 refine ae.av (n:=24) (rs:=[.tmp 4,.tmp 5]) Tryz.func96 rfl Tryz.ntmps96 rfl ?_
 repeat'(first
 |refine aa.ab fun K hK=>?_
 |(refine aa.region ?_;simp only[go_sem])
 |(refine hK _ ?_;clear hK K)
 |refine aa.cond rfl (fun c=>?_) (fun c=>?_)<;>first|exact Bool.noConfusion c|(try simp only[dD] at c)
 |refine aa.skip ?_
 |(refine ah.one (pn _) (by kernel_rfl) rfl ?_;simp only[go_sem])
 |(refine aH.split (fun h=>?_) (fun h=>?_)<;>simp only[h,go_sem]<;>(try simp only[dD] at h))
 |(
  refine aa.ret ?_
  refine az.is ?_;simp only[go_sem,aB,aE,aF,aA,aC,aD]<;>(first|(have e:=Nb (a:=a) (b:=b) (by assumption) (by assumption);simp_all[gv];done)|(simp_all[gv];done))))
theorem XL(n:Int):ae E 194 [i64 n] (fun r t=>r=i64 (ej n)∧t=[]):=by
 refine ae.av (n:=6) (rs:=[.tmp 2]) Tryz.func194 rfl Tryz.ntmps194 rfl ?_
 repeat'(first
 |refine aa.ab fun K hK=>?_
 |(refine aa.region ?_;simp only[go_sem])
 |(refine hK _ ?_;clear hK K)
 |(
  refine aa.ret ?_
  refine az.is ?_;simp only[go_sem,aB,aE,aF,aA,aC,aD]<;>(simp[ej];split<;>omega)))
theorem Kt(s:Int)(b:Bool):ae E 153 [i64 s,bl b] (fun r t=>r=bl (!b||decide (s=0))∧t=[]):=by
 refine ae.av (n:=11) (rs:=[.tmp 4]) Tryz.func153 rfl Tryz.ntmps153 rfl ?_
 repeat'(first
 |refine aa.ab fun K hK=>?_
 |(refine aa.region ?_;simp only[go_sem])
 |(refine hK _ ?_;clear hK K)
 |(refine aH.split (fun h=>?_) (fun h=>?_)<;>simp only[h,go_sem]<;>(try simp only[dD] at h))
 |(
  refine aa.ret ?_
  refine az.is ?_;simp only[go_sem,aB,aE,aF,aA,aC,aD]<;>(simp_all)))
theorem uH(n:Int):ae E 75 [i64 n] (fun r t=>r=bl (dw n)∧t=[]):=by
 refine ae.av (n:=9) (rs:=[.tmp 2]) Tryz.func75 rfl Tryz.ntmps75 rfl ?_
 repeat'(first
 |refine aa.ab fun K hK=>?_
 |(refine aa.region ?_;simp only[go_sem])
 |(refine hK _ ?_;clear hK K)
 |(refine aH.split (fun h=>?_) (fun h=>?_)<;>simp only[h,go_sem]<;>(try simp only[dD] at h))
 |(
  refine aa.ret ?_
  refine az.is ?_;simp only[go_sem,aB,aE,aF,aA,aC,aD]<;>(simp_all[dw]<;>omega)))
theorem F9(o:Od)(id:Bs):ae E 193 [aW o,.bR [str id]] (fun r t=>r=bl (decide (o.id=id))∧t=[]):=by
 refine ae.av (n:=8) (rs:=[.tmp 3]) Tryz.func193 rfl Tryz.ntmps193 rfl ?_
 repeat'(first
 |refine aa.ab fun K hK=>?_
 |(refine aa.region ?_;simp only[go_sem])
 |(refine hK _ ?_;clear hK K)
 |(
  refine aa.ret ?_
  refine az.is ?_;simp only[go_sem,aB,aE,aF,aA,aC,aD]<;>(simp_all)))
theorem Pz(l:List Od)(id:Bs)(hl:l.length≤9223372036854775807):ae E 154 [aR l,.fn 193 [.bR [str id]]] (fun r t=>r=i64 (fp (fun o:Od=>decide (o.id=id)) l)∧t=[]):=by
 refine ae.av (n:=19) (rs:=[.tmp 4]) Tryz.func154 rfl Tryz.ntmps154 rfl ?_
 repeat'(first
 |refine aa.ab fun K hK=>?_
 |(refine aa.region ?_;simp only[go_sem])
 |(refine hK _ ?_;clear hK K)
 |refine aa.block ?_
 |refine aa.cond rfl (fun c=>?_) (fun c=>?_)<;>(try simp only[dD] at c)
 |refine aa.skip ?_
 |(refine aa.exit ?_;simp only[go_sem])
 |(refine ah.one (F9 _ _) (by kernel_rfl) rfl ?_;simp only[go_sem])
 |((first|refine aG.nth ?_ (fun b hb=>?_)|with_reducible refine And.intro ?_ ?_);(focus(first|omega|(simp;done)));(try simp only[hb,go_sem]))
 |(
  refine aa.here 2 9 1 rfl ?_
  refine aa.cr (ι:=Nat) [4,5,9,10,11,12,13,14,15,16,17,18] (fun(i:Nat)=>[(8,i64 i)]) (fun(i:Nat)=>i≤l.length∧(l.take i).all (fun o:Od=>!(decide (o.id=id)))=true) (fun(i:Nat)=>l.length-i) (0) ?_ ?_ ?_
  ·(try simp only[go_sem]);(repeat'(first|fail));done
  ·exact⟨by omega,by simp⟩
  rintro i ⟨h1,h2⟩
  simp only[go_sem])
 |(
  refine⟨i+1,?_,?_,?_⟩
  ·(try simp only[go_sem]);(try rw[aq (by omega) (by omega)]);(repeat'(exact .inr rfl));done
  ·exact⟨by omega,lj hb h2 (by(try clear hK);by_cases e:b.id=id<;>simp_all)⟩
  ·(try simp only[]);omega)
 |(
  refine aa.ret ?_
  refine az.is ?_;simp only[go_sem,aB,aE,aF,aA,aC,aD]<;>(first|(rw[uI hb (by simp_all) h2];done)|(rw[tD (by omega) h2];done)))
 |refine aa.fin (by assumption) ?_)
theorem FQ(l:List Od)(id:Bs)(hl:l.length≤9223372036854775807):ae E 159 [aR l,.fn 193 [.bR [str id]]] (fun r t=>r=bl (decide (0≤fp (fun o:Od=>decide (o.id=id)) l))∧t=[]):=by
 refine ae.av (n:=9) (rs:=[.tmp 4]) Tryz.func159 rfl Tryz.ntmps159 rfl ?_
 repeat'(first
 |refine aa.ab fun K hK=>?_
 |(refine aa.region ?_;simp only[go_sem])
 |(refine hK _ ?_;clear hK K)
 |(refine ah.gS (Pz l id hl) (by kernel_rfl) rfl (.cons (.one (.clean rfl)) (.cons (.fn (.cons (.clean rfl) .nil)) .nil)) ?_;simp only[go_sem])
 |(
  refine aa.ret ?_
  refine az.is ?_;simp only[go_sem,aB,aE,aF,aA,aC,aD]<;>rfl))
theorem vp(l:List Od)(id:Bs)(hl:l.length≤9223372036854775807):ae E 152 [aR l,str id] (fun r t=>r=bl (hasB l id)∧t=[]):=by
 refine ae.av (n:=8) (rs:=[.tmp 4]) Tryz.func152 rfl Tryz.ntmps152 rfl ?_
 repeat'(first
 |refine aa.ab fun K hK=>?_
 |(refine aa.region ?_;simp only[go_sem])
 |(refine hK _ ?_;clear hK K)
 |(refine ah.gS (FQ l id hl) (by kernel_rfl) rfl (.cons (.one (.clean rfl)) (.cons (.fn (.cons (.ptr (e:= .agg [str id]) rfl (y4 id)) .nil)) .nil)) ?_;simp only[go_sem])
 |(
  refine aa.ret ?_
  refine az.is ?_;simp only[go_sem,aB,aE,aF,aA,aC,aD]<;>(exact DO l id)))
theorem qm(l:List Lm)(hl:l.length≤9223372036854775807):ae E 119 [bL l] (fun r t=>r=bl (bX l)∧t=[]):=by
 refine ae.av (n:=33) (rs:=[.tmp 2]) Tryz.func119 rfl Tryz.ntmps119 rfl ?_
 repeat'(first
 |refine aa.ab fun K hK=>?_
 |(
  refine aa.here 5 12 6 rfl ?_
  obtain⟨x,hx⟩:∃x,l[i]?=some x:=⟨_,List.getElem?_eq_getElem (by omega)⟩
  refine aa.region ?_;simp only[go_sem])
 |(refine aa.region ?_;simp only[go_sem])
 |(refine aa.here 6 15 17 rfl ?_;refine aa.bc [0,1,2,3,4,5,6,7,8,9,10,11,12,13,14,15,16] [] (by kernel_rfl) (by kernel_rfl) rfl ?_;simp only[go_sem])
 |(refine hK _ ?_;clear hK K)
 |refine aa.block ?_
 |refine aa.cond rfl (fun c=>?_) (fun c=>?_)<;>first|exact Bool.noConfusion c|(try simp only[dD] at c)
 |refine aa.skip ?_
 |(refine aa.exit ?_;simp only[go_sem])
 |(refine ah.one (sB x) (by kernel_rfl) rfl ?_;simp only[go_sem])
 |(refine ah.one (vQ b x) (by kernel_rfl) rfl ?_;simp only[go_sem])
 |(refine aH.split (fun h=>?_) (fun h=>?_)<;>simp only[h,go_sem]<;>(try simp only[dD] at h))
 |(refine aG.bA (by assumption) ?_;(try simp only[go_sem]))
 |((first|refine aG.nth ?_ (fun b hb=>?_)|with_reducible refine And.intro ?_ ?_);(focus(first|(rw[aq (by omega) (by omega)];omega)|(simp;done)));(try simp only[hb,go_sem]))
 |(
  refine aa.here 4 11 1 rfl ?_
  refine aa.cr (ι:=Nat) [2,3,4,11,12,13,14,15,16,17,18,19,20,21,22,23,24,25,26,27,28,29,30,31,32] (fun(i:Nat)=>[(10,i64 i)]) (fun(i:Nat)=>i≤l.length∧l.length≤32∧∀k,k<i→jA l k=true) (fun(i:Nat)=>l.length-i) (0) ?_ ?_ ?_
  ·(try simp only[go_sem]);(repeat'(first|fail));done
  ·exact⟨by omega,by omega,fun k hk=>by omega⟩
  rintro i ⟨h1,h2,h3⟩
  simp only[go_sem])
 |(
  refine⟨i+1,?_,?_,?_⟩
  ·(try simp only[go_sem]);(try rw[aq (by omega) (by omega)]);(repeat'(exact .inr rfl));done
  ·exact⟨by omega,h2,re h3 (by first|exact Bn hx (by omega) (by assumption)|(rw[lh (by omega) (by omega)] at hb;exact wj hx hb (by assumption) (by omega)))⟩
  ·(try simp only[]);omega)
 |(
  refine aa.ret ?_
  refine az.is ?_;simp only[go_sem,aB,aE,aF,aA,aC,aD]<;>(first|(rw[pX hx (Ap hx (by assumption))];done)|(rw[lh (by omega) (by omega)] at hb;rw[pX hx (A1 hx (by omega) hb (by omega))];done)|(rw[Bx (by omega)];done)|(rw[yT h2 (by omega) h3];done)))
 |refine aa.fin (by assumption) ?_)
theorem BM{b:Bk}(h:aQ b=true):b.af.length≤64:=(O5 h).2.1.1
theorem xI{l:List Od}(h:aU l=true):l.length≤64:=(jw.1 h).1
theorem MO(l:List Lm)(a s:Bs)(hl:l.length≤9223372036854775807):ae E 94 [bL l,str a,str s] (fun r t=>r= .ax [bd (gB l a s).1,bl (gB l a s).2]∧t=[]):=by
 refine ae.av (n:=33) (rs:=[.cell 6 63,.tmp 7]) Tryz.func94 rfl Tryz.ntmps94 rfl ?_
 repeat'(first
 |refine aa.ab fun K hK=>?_
 |(
  refine aa.here 5 18 4 rfl ?_
  obtain⟨x,hx⟩:∃x,l[i]?=some x:=⟨_,List.getElem?_eq_getElem (by omega)⟩
  refine aa.region ?_;simp only[go_sem])
 |(refine aa.region ?_;simp only[go_sem])
 |(refine hK _ ?_;clear hK K)
 |refine aa.block ?_
 |refine aa.cond rfl (fun c=>?_) (fun c=>?_)<;>first|exact Bool.noConfusion c|(try simp only[dD] at c)
 |refine aa.skip ?_
 |(refine aa.exit ?_;simp only[go_sem])
 |(refine ah.one (qm l hl) (by kernel_rfl) rfl ?_;simp only[go_sem])
 |(refine aH.split (fun h=>?_) (fun h=>?_)<;>simp only[h,go_sem]<;>(try simp only[dD] at h))
 |(refine aG.bA (by assumption) ?_;(try simp only[go_sem]))
 |((with_reducible refine And.intro ?_ ?_);(focus((simp;done)));(try simp only[hb,go_sem]))
 |(
  refine aa.here 4 17 1 rfl ?_
  refine aa.cr (ι:=Nat) [7,9,17,18,19,20,21,22,23,24,25,26,27,28,29,30,31] (fun(i:Nat)=>[(16,i64 i)]) (fun(i:Nat)=>i≤l.length∧∀k y,k<i→l[k]?=some y→¬(y.acc=a∧y.sym=s)) (fun(i:Nat)=>l.length-i) (0) ?_ ?_ ?_
  ·(try simp only[go_sem]);(repeat'(trivial));done
  ·exact⟨by omega,fun k y hk=>by omega⟩
  rintro i ⟨h1,h3⟩
  simp only[go_sem]
  have hr:bX l=true:=by assumption)
 |(
  refine⟨i+1,?_,?_,?_⟩
  ·(try simp only[go_sem]);(try rw[aq (by omega) (by omega)]);(repeat'(first|refine And.intro ?_ ?_|exact .inr rfl|trivial));done
  ·exact⟨by omega,TK h3 hx (by(try clear hK);simp_all)⟩
  ·(try simp only[]);omega)
 |(
  refine aa.ret ?_
  refine az.is ?_;simp only[go_sem,aB,aE,aF,aA,aC,aD]<;>(first|(rw[vX (by assumption)];simp;done)|(rw[Be hr (by omega) h3];simp;done)|(rw[BR hr hx h3 (by(try clear hK);simp_all) (by(try clear hK);simp_all)];(try clear hK);simp_all;done)))
 |refine aa.fin (by assumption) ?_)
theorem K0(l:List Lm)(o:Od)(w:Ws)(hl:l.length≤9223372036854775807):ae E 38 [bL l,aW o,wV w] (fun r t=>r=i64 (mz l o w)∧t=[]):=by
 refine ae.av (n:=81) (rs:=[.tmp 6]) Tryz.func38 rfl Tryz.ntmps38 rfl ?_
 repeat'(first
 |refine aa.ab fun K hK=>?_
 |(refine aa.region ?_;simp only[go_sem])
 |(refine hK _ ?_;clear hK K)
 |refine aa.cond rfl (fun c=>?_) (fun c=>?_)<;>first|exact Bool.noConfusion c|(try simp only[dD] at c)
 |refine aa.skip ?_
 |(refine ah.one (MO l o.acc o.sym hl) (by kernel_rfl) rfl ?_;simp only[go_sem])
 |(refine ah.one (w4 o.al o.aw) (by kernel_rfl) rfl ?_;simp only[go_sem])
 |(refine ah.one (wH w.1 o.al) (by kernel_rfl) rfl ?_;simp only[go_sem])
 |(refine ah.one (wH w.2 o.al) (by kernel_rfl) rfl ?_;simp only[go_sem])
 |(refine aH.split (fun h=>?_) (fun h=>?_)<;>simp only[h,go_sem]<;>(try simp only[dD] at h))
 |(
  refine aa.ret ?_
  refine az.is ?_;simp only[go_sem,aB,aE,aF,aA,aC,aD]<;>((unfold mz;simp[*];done))))
theorem Ef(l:Int)(g f:Bool)(b n p:Int):ae E 158 [.agg [i64 l,bl g,bl f,i64 b],i64 n,i64 p] (fun r t=>r=i64 (gf l g f b n p)∧t=[]):=by
 refine ae.av (n:=37) (rs:=[.tmp 6]) Tryz.func158 rfl Tryz.ntmps158 rfl ?_
 repeat'(first
 |refine aa.ab fun K hK=>?_
 |(
  refine aa.here 9 33 3 rfl ?_
  obtain rfl|rfl|rfl|rfl:i=1∨i=2∨i=3∨i=4:=by omega
  refine aa.region ?_;simp only[go_sem])
 |(refine aa.region ?_;simp only[go_sem])
 |(refine aa.here 4 16 11 rfl ?_;refine aa.bc [0,2,3,6,1,4,5,7,8,9,10] [] (by kernel_rfl) (by kernel_rfl) rfl ?_;simp only[go_sem])
 |(refine hK _ ?_;clear hK K)
 |refine aa.block ?_
 |refine aa.cond rfl (fun c=>?_) (fun c=>?_)<;>(try simp only[dD] at c)
 |refine aa.skip ?_
 |(refine aa.exit ?_;simp only[go_sem])
 |(refine ah.one (XL _) (by kernel_rfl) rfl ?_;simp only[go_sem])
 |(
  refine aa.here 7 29 2 rfl ?_
  refine aa.cr (ι:=Nat) [6,29,30,31,32,33,34,35,36] (fun(i:Nat)=>[(8,i64 i)]) (fun(i:Nat)=>i≤4∧(i≤3→b=0)∧(i≤2→f=false)∧(i≤1→¬ej p<IntKind.i64.wrap (ej n-ej l))∧(i≤0→g=false)) (fun(i:Nat)=>i) (4) ?_ ?_ ?_
  ·(try simp only[go_sem]);(repeat'(first|refine And.intro ?_ ?_|exact .inr (aM rfl)));done
  ·simp
  rintro i ⟨hi,h3,h2,h1,h0⟩
  simp only[go_sem])
 |(
  first|(refine⟨0,?_,?_,?_⟩<;>first|omega|((try clear hK);simp_all;done)|(simp only[go_sem];simp;rfl))|(refine⟨1,?_,?_,?_⟩<;>first|omega|((try clear hK);simp_all;done)|(simp only[go_sem];simp;rfl))|(refine⟨2,?_,?_,?_⟩<;>first|omega|((try clear hK);simp_all;done)|(simp only[go_sem];simp;rfl))|(refine⟨3,?_,?_,?_⟩<;>first|omega|(simp only[go_sem];simp;rfl)))
 |(
  refine aa.ret ?_
  refine az.is ?_;simp only[go_sem,aB,aE,aF,aA,aC,aD]<;>((try clear hK);simp_all[gf,Fl]<;>omega))
 |refine aa.fin (by assumption) ?_)
theorem Eo(v:Vn)(now pat:Int)(hsm:v.book.af.length+v.ar.length≤64):ae E 91 [aN v,i64 now,i64 pat] (fun r t=>r=i64 (fg v now pat)∧t=[]):=by
 have hws:IntKind.i64.wrap ((v.book.af.length:Int)+v.ar.length)=(v.book.af.length:Int)+v.ar.length:=aq (by omega) (by omega)
 have e64:decide ((64:Int)≤(v.book.af.length:Int)+v.ar.length)=decide (64≤v.book.af.length+v.ar.length):=decide_eq_decide.2 (by omega)
 refine ae.av (n:=36) (rs:=[.tmp 6]) Tryz.func91 rfl Tryz.ntmps91 rfl ?_
 repeat'(first
 |refine aa.ab fun K hK=>?_
 |(refine aa.region ?_;simp only[go_sem,hws,e64])
 |(refine hK _ ?_;clear hK K)
 |(refine ah.one (Ef v.last v.br _ v.book.bad now pat) (by kernel_rfl) rfl ?_;simp only[go_sem,hws,e64])
 |(refine aH.bY (fun h=>?_) (fun h=>?_)<;>simp only[h,go_sem,hws,e64]<;>(try simp only[dD] at h))
 |((with_reducible refine And.intro ?_ ?_);(focus((simp;done)));(try simp only[hb,go_sem,hws,e64]))
 |(
  refine aa.ret ?_
  refine az.is ?_;simp only[go_sem,aB,aE,aF,aA,aC,aD]<;>(first|(unfold fg;rw[decide_eq_true (by omega),Bool.true_or];done)|(unfold fg;rw[decide_eq_false (p:=256≤v.book.ids.length) (by omega),Bool.false_or];done))))
theorem Dg(v:Vn)(now:Int)(hv:pR v):ae E 120 [aN v,i64 now] (fun r t=>r=bl (dg v now)∧t=[]):=by
 obtain⟨ho,hf,hi,hs⟩:=hv
 refine ae.av (n:=56) (rs:=[.tmp 4]) Tryz.func120 rfl Tryz.ntmps120 rfl ?_
 repeat'(first
 |refine aa.ab fun K hK=>?_
 |(
  refine aa.here 3 17 20 rfl ?_
  have hro:=BM (by assumption)
  have hrs:=xI (by assumption)
  have hws:IntKind.i64.wrap ((v.book.af.length:Int)+v.ar.length)=(v.book.af.length:Int)+v.ar.length:=aq (by omega) (by omega)
  refine aa.region ?_;simp only[go_sem,hws])
 |(
  refine aa.here 7 42 4 rfl ?_
  obtain⟨o,hx⟩:∃o,v.ar[i]?=some o:=⟨_,List.getElem?_eq_getElem (by omega)⟩
  refine aa.region ?_;simp only[go_sem])
 |(refine aa.region ?_;simp only[go_sem])
 |(refine hK _ ?_;clear hK K)
 |refine aa.block ?_
 |refine aa.cond rfl (fun c=>?_) (fun c=>?_)<;>first|exact Bool.noConfusion c|(try simp only[dD] at c)
 |refine aa.skip ?_
 |(refine aa.exit ?_;simp only[go_sem])
 |(refine ah.one (mE v.book ho hf hi) (by kernel_rfl) rfl ?_;simp only[go_sem])
 |(refine ah.one (kZ v.ar hs) (by kernel_rfl) rfl ?_;simp only[go_sem])
 |(refine ah.one (vp v.book.af o.id ho) (by kernel_rfl) rfl ?_;simp only[go_sem])
 |(refine aH.bY (fun h=>?_) (fun h=>?_)<;>simp only[h,go_sem]<;>(try simp only[dD] at h))
 |(refine aH.split (fun h=>?_) (fun h=>?_)<;>simp only[h,go_sem]<;>(try simp only[dD] at h))
 |(refine aG.bA (by assumption) ?_;(try simp only[go_sem]))
 |((with_reducible refine And.intro ?_ ?_);(focus((simp;done)));(try simp only[hb,go_sem]))
 |(
  refine aa.here 6 41 1 rfl ?_
  refine aa.cr (ι:=Nat) [4,6,41,42,43,44,45,46,47,48,49,50,51,52,53,54,55] (fun(i:Nat)=>[(40,i64 i)]) (fun(i:Nat)=>i≤v.ar.length∧∀k o,k<i→v.ar[k]?=some o→o.bg=true∧hasB v.book.af o.id=false) (fun(i:Nat)=>v.ar.length-i) (0) ?_ ?_ ?_
  ·(try simp only[go_sem]);(repeat'(exact .inr (aM rfl)));done
  ·exact⟨by omega,fun k o hk=>by omega⟩
  rintro i ⟨h1,h3⟩
  simp only[go_sem])
 |(
  refine⟨i+1,?_,?_,?_⟩
  ·(try simp only[go_sem]);(try rw[aq (by omega) (by omega)]);(repeat'(first|refine And.intro ?_ ?_|exact .inr rfl|exact .inr (aM rfl)));done
  ·exact⟨by omega,pT h3 hx ⟨by assumption,by assumption⟩⟩
  ·(try simp only[]);omega)
 |(
  refine aa.ret ?_
  refine az.is ?_;simp only[go_sem,aB,aE,aF,aA,aC,aD]<;>(first|(rw[zI (by assumption)];done)|(rw[zt (by assumption)];done)|(rw[xn (by omega)];done)|(rw[u9 (by assumption) (by assumption) (by omega) (by omega) (by omega) (i:=i) (by omega) h3];done)|(rw[sd hx (by simp[*])];done)))
 |refine aa.fin (by assumption) ?_)
end Go.Proofs.YtajeeghgiilhiaaGreat
end
