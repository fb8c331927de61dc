/- (T9, K1, G28, G29, GtG) -/
import Derived.Test.YtajeeghgiilhiaaGreatKxS
import Derived.Test.YtajeeghgiilhiaaGreatKxO
import Derived.Test.YtajeeghgiilhiaaGreatKxQc
import Derived.Test.YtajeeghgiilhiaaGreatKxK
import Derived.Test.YtajeeghgiilhiaaGreatKxQb
import Derived.Test.YtajeeghgiilhiaaGreatKxL
import Derived.Test.YtajeeghgiilhiaaGreatKxA
set_option linter.unusedVariables false
set_option linter.unusedSimpArgs false
set_option linter.unusedSectionVars false
set_option maxHeartbeats 16000000
set_option maxRecDepth 8000
section
namespace Go.Proofs.YtajeeghgiilhiaaGreat
open Go Go.Abs Go.RowKit Go.Bk
theorem HJ{im:Im}{k:Nat}{cs:List AV}{v:Value}(h:aX im (.agg (.aQ::cs)) v):aX im (.agg (.sl none k []::cs)) v:=by
 cases h with
 |agg _ vs hn h=>
  refine .agg _ vs hn (fun i c u hc hu=>?_)
  cases i with
  |zero=>cases hc;exact(h 0 .aQ u rfl hu).of_nil
  |succ i=>exact h (i+1) c u hc hu
theorem C7(bk:Bk)(ho:bk.ak=[])(hf:bk.al.length≤1000000)(hi:bk.ids.length≤9223372036854775807):ai E 56 [.agg [.aQ,cg bk.al,.sl none 1 (bk.ids.map str),i64 bk.clock,i64 bk.bad]] (fun r t=>r=ez (cD bk)∧t=[]):=by
 obtain⟨od,fl,ids,cl,bad⟩:=bk
 simp only at ho
 subst ho
 intro w im vs h0 hg h1 h2
 refine A1 _ aD hf hi w im vs h0 hg h1 ?_
 obtain⟨hn,hp⟩:=h2
 refine⟨hn,fun i x v hx hv=>?_⟩
 rcases i with _|i
 ·cases hx
  exact HJ (k:=8) (hp 0 _ v rfl hv)
 ·simp at hx
def jK(a d:List Po):Bool:=decide (a.length=d.length)&&(List.zipWith (fun x y:Po=>decide (x.acc=y.acc)&&decide (x.sym=y.sym)&&decide (x.aq=y.aq)&&decide (x.value=y.value)&&decide (x.over=y.over)) a d).all id
theorem Tp{x y:Po}:(decide (x.acc=y.acc)&&decide (x.sym=y.sym)&&decide (x.aq=y.aq)&&decide (x.value=y.value)&&decide (x.over=y.over))=true↔x=y:=by
 cases x;cases y;simp[and_assoc]
theorem sQ:∀{a d:List Po},jK a d=true↔a=d
 |[],[]=>by simp[jK]
 |[],y::d=>by simp[jK]
 |x::a,[]=>by simp[jK]
 |x::a,y::d=>by
  have ih:=sQ (a:=a) (d:=d)
  unfold jK at *
  simp only[List.length_cons,List.zipWith_cons_cons,List.all_cons,id,Bool.and_eq_true,decide_eq_true_eq,Nat.add_right_cancel_iff,List.cons.injEq] at *
  rw[←ih]
  have:=Tp (x:=x) (y:=y)
  simp only[Bool.and_eq_true,decide_eq_true_eq] at this
  rw[←this]
  exact⟨fun h=>⟨h.2.1,h.1,h.2.2⟩,fun h=>⟨h.2.1,h.1,h.2.2⟩⟩
theorem Wq{a d:List Po}(h:¬a.length=d.length):jK a d=false:=by unfold jK;rw[decide_eq_false h];rfl
theorem JO{a d:List Po}{i:Nat}{x y:Po}(hx:a[i]?=some x)(hy:d[i]?=some y)(h:¬x=y):jK a d=false:=by
 cases e:jK a d with
 |false=>rfl
 |true=>
  have:=sQ.1 e
  subst this;rw[hx] at hy;exact absurd (Option.some.inj hy) h
theorem EW{a d:List Po}{i:Nat}(hi:a.length≤i)(h:a.length=d.length)(h2:a.take i=d.take i):jK a d=true:=by
 rw[List.take_of_length_le hi,List.take_of_length_le ab] at h2
 exact sQ.2 h2
theorem JE{x y:Po}(h:x.acc=y.acc→x.sym=y.sym→x.aq=y.aq→x.value=y.value→¬x.over=y.over):¬x=y:=fun e=>by subst e;exact h rfl rfl rfl rfl rfl
theorem Ef{x y:Po}(h:x.acc=y.acc∧x.sym=y.sym∧x.aq=y.aq∧x.value=y.value∧x.over=y.over):x=y:=by
 cases x;cases y;simp at h;simp[h]
theorem Fm(bk:Bk)(ho:bk.ak.length≤1000000)(hf:bk.al.length≤1000000)(hi:bk.ids.length≤1000000):ai E 54 [dx bk] (fun r t=>r=dx bk∧t=[]):=by
 refine ai.aw (n:=16) (rs:=[.cell 2 26]) Tryz.func54 rfl Tryz.ntmps54 rfl ?_
 repeat'(first
 |refine aa.aj fun K hK=>?_
 |(refine aa.region ?_;simp only[go_sem])
 |(refine hK _ ?_;clear hK K)
 |(refine ah.one (fq bk.ak ho) af rfl ?_;simp only[go_sem])
 |(refine ah.one (kh bk.al hf) af rfl ?_;simp only[go_sem])
 |(refine ah.one (kg bk.ids hi) af rfl ?_;simp only[go_sem])
 |(
  refine aa.ret ?_
  refine aB.is ?_;simp only[go_sem,aE,aI,aH,aG,aJ,aF]<;>(first|fail)))
theorem Fp(bk:Bk)(f:Dn)(ho:bk.ak.length≤1000000)(hf:bk.al.length≤1000000)(hi:bk.ids.length≤1000000):ai E 55 [dx bk,bY f] (fun r t=>r=bl (aW bk&&cL bk f)∧t=[]):=by
 refine ai.aw (n:=12) (rs:=[.tmp 4]) Tryz.func55 rfl Tryz.ntmps55 rfl ?_
 repeat'(first
 |refine aa.aj fun K hK=>?_
 |(refine aa.region ?_;simp only[go_sem])
 |(refine hK _ ?_;clear hK K)
 |(refine ah.one (mQ bk ab ab ab) af rfl ?_;simp only[go_sem])
 |(refine ah.one (wN bk f) af rfl ?_;simp only[go_sem])
 |(refine aL.split (fun h=>?_) (fun h=>?_)<;>simp only[h,go_sem]<;>(try simp only[dD] at h))
 |(
  refine aa.ret ?_
  refine aB.is ?_;simp only[go_sem,aE,aI,aH,aG,aJ,aF]<;>((simp_all;done))))
theorem HL(bk:Bk)(f:Dn)(ho:bk.ak.length≤1000000)(hf:bk.al.length≤1000000)(hi:bk.ids.length≤1000000)(hr:aW bk=true):ai E 55 [dx bk,bY f] (fun r t=>r=bl (cL bk f)∧t=[]):=by
 have h:=Fp bk f ho hf hi
 rwa[hr,Bool.true_and] at h
theorem ZV(bk:Bk)(ho:bk.ak.length≤1000000)(hf:bk.al.length≤1000000)(hi:bk.ids.length≤1000000):ai E 13 [dx bk] (fun r t=>r= .aC [dx (kQ bk).1,ez (kQ bk).2.1,i64 (kQ bk).2.2]∧t=[]):=by
 refine ai.aw (n:=50) (rs:=[.cell 2 26,.tmp 3,.tmp 4]) Tryz.func13 rfl Tryz.ntmps13 rfl ?_
 repeat'(first
 |refine aa.aj fun K hK=>?_
 |(
  refine aa.here 7 22 4 rfl ?_
  obtain⟨f,hb⟩:∃f,bk.al[i]?=some f:=⟨_,List.getElem?_eq_getElem ab⟩
  refine aa.region ?_;simp only[go_sem])
 |(
  refine aa.here 12 36 8 rfl ?_
  have e1:fs=nV bk:=by rw[h2,List.take_of_length_le ab];rfl
  have e2:rs=qO bk:=by rw[h3,List.take_of_length_le ab];rfl
  rw[e1,e2]
  refine aa.region ?_;simp only[go_sem])
 |(refine aa.region ?_;simp only[go_sem])
 |(refine hK _ ?_;clear hK K)
 |refine aa.block ?_
 |refine aa.cond rfl (fun c=>?_) (fun c=>?_)<;>(try simp only[dD] at c)
 |refine aa.skip ?_
 |(refine aa.exit ?_;simp only[go_sem])
 |(refine ah.one (Fm bk ho hf hi) af rfl ?_;simp only[go_sem])
 |(refine ah.one (mQ bk ab ab ab) af rfl ?_;simp only[go_sem])
 |(refine ah.one (HL bk f ho hf hi hrb) af rfl ?_;simp only[go_sem])
 |(refine ah.one (C7 (ft bk) rfl (by have:=List.length_filter_le (fun f=>cL bk f) bk.al;simp only[ft,nV];omega) (by simp only[ft];omega)) af rfl ?_;simp only[go_sem])
 |(refine ah.one (Ip (cD (ft bk)) (by have:=w8 (ft bk);have:=List.length_filter_le (fun f=>cL bk f) bk.al;simp only[ft,nV] at *;omega)) af rfl ?_;simp only[go_sem])
 |(refine aM.bG ae ?_;(try simp only[go_sem]))
 |((with_reducible refine And.intro ?_ ?_);(focus(first|omega|(simp;done)));(try simp only[hb,go_sem]))
 |(
  refine aa.here 6 21 1 rfl ?_
  refine aa.fu 6 9 rfl ?_
  refine aa.fu 7 9 rfl ?_
  simp only[go_sem]
  refine aa.ck (ι:=Nat×List Dn×List Dn) [9,21,22,23,24,25,26,27,28,29,30,31,32,33,34,35] (fun⟨i,fs,rs⟩=>[(20,i64 i),(6,.sl (some 0) 9 (fs.map bY)),(7,.sl (some 1) 9 (rs.map bY))]) (fun⟨i,fs,rs⟩=>[some [.agg [aV bk.ak,cg bk.al,.sl none 1 (bk.ids.map str),i64 bk.clock,i64 bk.bad]],some [.agg [.aQ,.aQ,.aQ,i64 0,i64 0]],some [.agg [aV bk.ak,cg bk.al,.sl none 1 (bk.ids.map str),i64 bk.clock,i64 bk.bad]]]) (fun⟨i,fs,rs⟩=>[fs.length,rs.length]) (fun⟨i,fs,rs⟩=>i≤bk.al.length∧fs=(bk.al.take i).filter (fun f=>cL bk f)∧rs=(bk.al.take i).filter (fun f=>!cL bk f)) (fun⟨i,fs,rs⟩=>bk.al.length-i) ((0,[],[])) ?_ ?_ ?_
  ·(try simp only[go_sem]);(repeat'(first|refine And.intro ?_ ?_|trivial|exact .inr (aR rfl)));done
  ·exact⟨by omega,rfl,rfl⟩
  rintro⟨i,fs,rs⟩ ⟨h1,h2,h3⟩
  simp only[go_sem]
  have hrb:aW bk=true:=by assumption
  have hfl:fs.length≤i:=by rw[h2];exact Nat.le_trans (List.length_filter_le _ _) (by rw[List.length_take];omega)
  have hrl:rs.length≤i:=by rw[h3];exact Nat.le_trans (List.length_filter_le _ _) (by rw[List.length_take];omega))
 |(
  first
  |(refine⟨(i+1,fs++[f],rs),?_,⟨by show i+1≤_;omega,by show fs++[f]=_;rw[h2];exact(xc hb ae).symm,by show rs=_;rw[h3];exact(zW hb (by simp_all)).symm⟩,by show bk.al.length-(i+1)<bk.al.length-i;omega⟩
    (try simp only[go_sem]);(try rw[av ab ab]);(repeat'(first|refine And.intro ?_ ?_|exact .inr rfl|trivial|exact .inr (aR rfl)|(simp;done)));done)
  |(refine⟨(i+1,fs,rs++[f]),?_,⟨by show i+1≤_;omega,by show fs=_;rw[h2];exact(zW hb ae).symm,by show rs++[f]=_;rw[h3];exact(xc hb (by simp_all)).symm⟩,by show bk.al.length-(i+1)<bk.al.length-i;omega⟩
    (try simp only[go_sem]);(try rw[av ab ab]);(repeat'(first|refine And.intro ?_ ?_|exact .inr rfl|trivial|exact .inr (aR rfl)|(simp;done)));done))
 |(
  refine aa.ret ?_
  refine aB.is ?_;simp only[go_sem,aE,aI,aH,aG,aJ,aF]<;>(first|(rw[EL ae];(exact⟨⟨rfl,rfl,rfl,rfl,rfl⟩,trivial,rfl⟩))|(rw[LC hrb ae];(exact⟨⟨rfl,rfl,rfl,rfl,rfl⟩,trivial,rfl⟩))|(rw[Dp hrb ae];(exact⟨⟨rfl,rfl,rfl,rfl,rfl⟩,rfl,rfl⟩))))
 |refine aa.fin ae ?_)
theorem RF(a d:List Po)(ha:a.length≤1000000)(hd:d.length≤1000000):ai E 16 [ez a,ez d] (fun r t=>r=bl (jK a d)∧t=[]):=by
 refine ai.aw (n:=26) (rs:=[.tmp 4]) Tryz.func16 rfl Tryz.ntmps16 rfl ?_
 repeat'(first
 |refine aa.aj fun K hK=>?_
 |(
  refine aa.here 6 17 9 rfl ?_
  obtain⟨x,hx⟩:∃x,a[i]?=some x:=⟨_,List.getElem?_eq_getElem ab⟩
  obtain⟨y,hy⟩:∃y,d[i]?=some y:=⟨_,List.getElem?_eq_getElem ab⟩
  refine aa.bf [0,1,2,3,4,5,6,7,8] [] af af rfl ?_;simp only[go_sem])
 |(refine aa.region ?_;simp only[go_sem])
 |(refine hK _ ?_;clear hK K)
 |refine aa.block ?_
 |refine aa.cond rfl (fun c=>?_) (fun c=>?_)<;>(try simp only[dD] at c)
 |refine aa.skip ?_
 |(refine aa.exit ?_;simp only[go_sem])
 |(refine aM.bG ae ?_;(try simp only[go_sem]))
 |((with_reducible refine And.intro ?_ ?_);(focus((simp;done)));(try simp only[hb,go_sem]))
 |(
  refine aa.here 4 11 4 rfl ?_
  refine aa.cC (ι:=Nat) [4,11,12,13,14,15,16,17,18,19,20,21,22,23,24,25] (fun(i:Nat)=>[(5,i64 i)]) (fun(i:Nat)=>i≤a.length∧a.length=d.length∧a.take i=d.take i) (fun(i:Nat)=>a.length-i) (0) ?_ ?_ ?_
  ·(try simp only[go_sem]);(repeat'(first|fail));done
  ·exact⟨by omega,by omega,rfl⟩
  rintro i ⟨h1,h2,h3⟩
  simp only[go_sem])
 |(
  refine⟨i+1,?_,?_,?_⟩
  ·(try simp only[go_sem]);(try rw[av ab ab]);(repeat'(exact .inr rfl));done
  ·exact⟨by omega,h2,by rw[cF hx,cF hy,h3,show x=y from Ef ae]⟩
  ·(try simp only[]);omega)
 |(
  refine aa.ret ?_
  refine aB.is ?_;simp only[go_sem,aE,aI,aH,aG,aJ,aF]<;>(first|(rw[Wq ab];done)|(rw[JO hx hy (JE ae)];done)|(rw[EW ab h2 h3];done)))
 |refine aa.fin ae ?_)
theorem WV{x y z:Nat}(h1:(x:Int)≤80)(h2:(y:Int)≤60):decide ((z:Int)≤300)=(decide (x≤80)&&(decide (y≤60)&&decide (z≤300))):=by
 rw[decide_eq_true (p:=x≤80) ab,decide_eq_true (p:=y≤60) ab,Bool.true_and,Bool.true_and]
 exact decide_eq_decide.2 ab
theorem TK{x y z:Nat}(h2:¬(y:Int)≤60):false=(decide (x≤80)&&(decide (y≤60)&&decide (z≤300))):=by
 rw[decide_eq_false (p:=y≤60) ab];simp
theorem IC{x y z:Nat}(h2:¬(x:Int)≤80):false=(decide (x≤80)&&(decide (y≤60)&&decide (z≤300))):=by
 rw[decide_eq_false (p:=x≤80) ab];simp
theorem JU(bk:Bk)(ho:bk.ak.length≤9223372036854775807)(hf:bk.al.length≤9223372036854775807)(hi:bk.ids.length≤9223372036854775807):ai E 11 [dx bk] (fun r t=>r=bl (decide (bk.ak.length≤80)&&(decide (bk.al.length≤60)&&decide (bk.ids.length≤300)))∧t=[]):=by
 refine ai.aw (n:=19) (rs:=[.tmp 2]) Tryz.func11 rfl Tryz.ntmps11 rfl ?_
 repeat'(first
 |refine aa.aj fun K hK=>?_
 |(refine aa.region ?_;simp only[go_sem])
 |(refine hK _ ?_;clear hK K)
 |(refine aL.split (fun h=>?_) (fun h=>?_)<;>simp only[h,go_sem]<;>(try simp only[dD] at h))
 |((with_reducible refine And.intro ?_ ?_);(focus((simp;done)));(try simp only[hb,go_sem]))
 |(
  refine aa.ret ?_
  refine aB.is ?_;simp only[go_sem,aE,aI,aH,aG,aJ,aF]<;>(first|exact WV ae ae |exact TK ae |exact IC ae)))
theorem Jo{l:List Od}{P:Prop}(h:l.length≤80∧P):l.length≤1000000:=by have:=h.1;omega
theorem O5{l:List Lm}{P:Prop}(h:l.length≤40∧P):l.length≤40:=h.1
instance decVn:DecidableEq Vn:=fun a b=>decidable_of_iff (a.book=b.book∧a.ax=b.ax∧a.last=b.last∧a.bB=b.bB) (by cases a;cases b;simp)
instance decGt:DecidableEq Gt:=fun a b=>decidable_of_iff (a.ao=b.ao∧a.aT=b.aT∧a.kill=b.kill∧a.now=b.now∧a.pat=b.pat) (by cases a;cases b;simp)
theorem NA{x y:Vn}(h1:x.book=y.book)(h2:x.ax=y.ax)(h3:x.last=y.last)(h4:x.bB=y.bB):x=y:=by cases x;cases y;simp only at h1 h2 h3 h4;subst h1;subst h2;subst h3;subst h4;rfl
section
variable{a b:Gt}
theorem O1(h:¬a.ao.length=b.ao.length):decide (a=b)=false:=decide_eq_false fun e=>h (by rw[e])
theorem XF(h:¬a.aT=b.aT):decide (a=b)=false:=decide_eq_false fun e=>h (by rw[e])
theorem Xl(h:¬a.kill=b.kill):decide (a=b)=false:=decide_eq_false fun e=>h (by rw[e])
theorem Kq(h:¬a.now=b.now):decide (a=b)=false:=decide_eq_false fun e=>h (by rw[e])
theorem EE(h:¬a.pat=b.pat):decide (a=b)=false:=decide_eq_false fun e=>h (by rw[e])
theorem sk{i:Nat}{x y:Vn}(hx:a.ao[i]?=some x)(hy:b.ao[i]?=some y)(h:¬x.book=y.book∨¬x.ax=y.ax∨¬x.last=y.last∨¬x.bB=y.bB):decide (a=b)=false:=decide_eq_false fun e=>by
 rw[e,hy] at hx;cases hx;simp at h
theorem Qi{i:Nat}(h0:a.ao.length=b.ao.length)(hi:a.ao.length≤i)(h:a.ao.take i=b.ao.take i)(h1:a.aT=b.aT)(h2:a.kill=b.kill)(h3:a.now=b.now)(h4:a.pat=b.pat):decide (a=b)=true:=by
 rw[List.take_of_length_le hi,List.take_of_length_le ab] at h
 apply decide_eq_true
 cases a;cases b;simp only at h h1 h2 h3 h4;subst h;subst h1;subst h2;subst h3;subst h4;rfl
end
theorem Re(a b:Gt)(ha:dS a):ai E 37 [aO a,aO b] (fun r t=>r=bl (decide (a=b))∧t=[]):=by
 have ha1:=ha.1
 have ha2:=ha.2.1
 refine ai.aw (n:=89) (rs:=[.tmp 4]) Tryz.func37 rfl Tryz.ntmps37 rfl ?_
 repeat'(first
 |refine aa.aj fun K hK=>?_
 |(
  refine aa.here 6 51 14 rfl ?_
  obtain⟨x,hx⟩:∃x,a.ao[i]?=some x:=⟨_,List.getElem?_eq_getElem ab⟩
  obtain⟨y,hy⟩:∃y,b.ao[i]?=some y:=⟨_,List.getElem?_eq_getElem ab⟩
  have hv:=ha.2.2 x (List.mem_of_getElem? hx)
  apply aa.II (.take 0 (.take 1 (.take 2 (.take 3 (.take 4 (.take 5 (.take 7 (.fork (.alt 6 (.take 8 (.fork (.alt 9 (.take 10 (.take 11 (.take 12 (.take 13 .done)))) (.alt 10 (.fork (.alt 9 (.take 11 (.take 12 (.take 13 .done))) (.alt 11 (.fork (.alt 9 (.take 12 (.take 13 .done)) (.alt 12 (.take 9 (.take 13 .done)) .ends))) .ends))) (.alt 11 (.fork (.alt 9 (.take 10 (.take 12 (.take 13 .done))) (.alt 10 (.fork (.alt 9 (.take 12 (.take 13 .done)) (.alt 12 (.take 9 (.take 13 .done)) .ends))) .ends))) .ends))))) (.alt 10 (.fork (.alt 6 (.take 8 (.fork (.alt 9 (.take 11 (.take 12 (.take 13 .done))) (.alt 11 (.fork (.alt 9 (.take 12 (.take 13 .done)) (.alt 12 (.take 9 (.take 13 .done)) .ends))) .ends)))) (.alt 11 (.fork (.alt 6 (.take 8 (.fork (.alt 9 (.take 12 (.take 13 .done)) (.alt 12 (.take 9 (.take 13 .done)) .ends)))) (.alt 12 (.take 6 (.take 8 (.take 9 (.take 13 .done)))) .ends))) .ends))) (.alt 11 (.fork (.alt 6 (.take 8 (.fork (.alt 9 (.take 10 (.take 12 (.take 13 .done))) (.alt 10 (.fork (.alt 9 (.take 12 (.take 13 .done)) (.alt 12 (.take 9 (.take 13 .done)) .ends))) .ends)))) (.alt 10 (.fork (.alt 6 (.take 8 (.fork (.alt 9 (.take 12 (.take 13 .done)) (.alt 12 (.take 9 (.take 13 .done)) .ends)))) (.alt 12 (.take 6 (.take 8 (.take 9 (.take 13 .done)))) .ends))) .ends))) .ends))))))))))) [[],[0],[],[0,1,2],[0,1,2,3],[],[5],[],[5,6,7],[5,6,7,8],[],[],[0,1,2,3,4,10,11],[0,1,2,3,4,5,6,7,8,9,10,11,12]] [6,7] af af ay;simp only[go_sem])
 |(refine aa.region ?_;simp only[go_sem])
 |(refine hK _ ?_;clear hK K)
 |refine aa.block ?_
 |refine aa.cond rfl (fun c=>?_) (fun c=>?_)<;>first|exact Bool.noConfusion c|(try simp only[dD] at c)
 |refine aa.skip ?_
 |(refine aa.exit ?_;simp only[go_sem])
 |(refine ah.one (Sw a.aT b.aT ha2) af rfl ?_;simp only[go_sem])
 |(refine ah.one (MG x.book y.book hv.1 hv.2.1 hv.2.2.1) af rfl ?_;simp only[go_sem])
 |(refine ah.one (x8 x.ax y.ax hv.2.2.2) af rfl ?_;simp only[go_sem])
 |(refine aL.split (fun h=>?_) (fun h=>?_)<;>simp only[h,go_sem]<;>(try simp only[dD] at h))
 |(refine aM.bG ae ?_;(try simp only[go_sem]))
 |((with_reducible refine And.intro ?_ ?_);(focus((simp;done)));(try simp only[hb,go_sem]))
 |exact rfl
 |(
  refine aa.here 4 44 5 rfl ?_
  refine aa.ck (ι:=Nat) [4,6,7,44,45,46,47,48,49,50,51,52,53,54,55,56,57,58,59,60,61,62,63,64,65,66,67,68,69,70,71,72,73,74,75,76,77,78,79,80,81,82,83,84,85,86,87,88] (fun(i:Nat)=>[(5,i64 i)]) (fun(i:Nat)=>[some [.agg [eB a.ao,bT a.aT,bl a.kill,i64 a.now,i64 a.pat]],some [.agg [eB b.ao,bT b.aT,bl b.kill,i64 b.now,i64 b.pat]]]) (fun(i:Nat)=>[]) (fun(i:Nat)=>i≤a.ao.length∧a.ao.length=b.ao.length∧a.ao.take i=b.ao.take i) (fun(i:Nat)=>a.ao.length-i) (0) ?_ ?_ ?_
  ·(try simp only[go_sem]);(repeat'(first|refine And.intro ?_ ?_|exact .inr (aR rfl)));done
  ·exact⟨by omega,by omega,by simp⟩
  rintro i ⟨h1,h2,h3⟩
  simp only[go_sem]
  have hlim:a.aT=b.aT:=ae
  have hkil:a.kill=b.kill:=ae
  have hnow:a.now=b.now:=ae
  have hpat:a.pat=b.pat:=ae)
 |(
  refine⟨i+1,?_,?_,?_⟩
  ·(try simp only[go_sem]);(try rw[av ab ab]);(repeat'(first|refine And.intro ?_ ?_|exact .inr rfl|exact .inr (aR rfl)));done
  ·exact⟨by omega,by omega,Aw hx hy (NA ae ae ae ae) h3⟩
  ·(try simp only[]);omega)
 |(
  refine aa.ret ?_
  refine aB.is ?_;simp only[go_sem,aE,aI,aH,aG,aJ,aF]<;>(try((first|(rw[O1 ab];done)|(rw[XF ae];done)|(rw[Xl ae];done)|(rw[Kq ae];done)|(rw[EE ae];done)|(rw[sk hx hy (.inl ae)];done)|(rw[sk hx hy (.inr (.inl ae))];done)|(rw[sk hx hy (.inr (.inr (.inl ae)))];done)|(rw[sk hx hy (.inr (.inr (.inr ae)))];done)|(rw[Qi h2 ab h3 hlim hkil hnow hpat];done)))))
 |refine aa.fin ae ?_)
theorem kz(g:Gt)(hg:dS g):ai E 48 [aO g] (fun r t=>(∃d:Bool,r=bl d∧(d=true→bP g))∧t=[]):=by
 have hg1:=hg.1
 have hg2:=hg.2.1
 refine ai.aw (n:=39) (rs:=[.tmp 2]) Tryz.func48 rfl Tryz.ntmps48 rfl ?_
 repeat'(first
 |refine aa.aj fun K hK=>?_
 |(
  refine aa.here 6 21 18 rfl ?_
  obtain⟨v,hx⟩:∃v,g.ao[i]?=some v:=⟨_,List.getElem?_eq_getElem ab⟩
  have hv:=hg.2.2 v (List.mem_of_getElem? hx)
  refine aa.region ?_;simp only[go_sem])
 |(refine aa.region ?_;simp only[go_sem])
 |(refine hK _ ?_;clear hK K)
 |refine aa.block ?_
 |refine aa.cond rfl (fun c=>?_) (fun c=>?_)<;>first|exact Bool.noConfusion c|(try simp only[dD] at c)
 |refine aa.skip ?_
 |(refine aa.exit ?_;simp only[go_sem])
 |(refine ah.one (xV g.aT) af rfl ?_;simp only[go_sem])
 |(refine ah.one (JU v.book hv.1 hv.2.1 hv.2.2.1) af rfl ?_;simp only[go_sem])
 |(refine ah.one (Cr v.ax) af rfl ?_;simp only[go_sem])
 |(refine aL.cc (fun h=>?_) (fun h=>?_)<;>simp only[h,go_sem]<;>(try simp only[dD] at h))
 |(refine aL.split (fun h=>?_) (fun h=>?_)<;>simp only[h,go_sem]<;>(try simp only[dD] at h))
 |(refine aM.bG ae ?_;(try simp only[go_sem]))
 |((with_reducible refine And.intro ?_ ?_);(focus((simp;done)));(try simp only[hb,go_sem]))
 |(
  refine aa.here 4 14 5 rfl ?_
  refine aa.ck (ι:=Nat) [2,14,15,16,17,18,19,20,21,22,23,24,25,26,27,28,29,30,31,32,33,34,35,36,37,38] (fun(i:Nat)=>[(3,i64 i)]) (fun(i:Nat)=>[some [.agg [eB g.ao,bT g.aT,bl g.kill,i64 g.now,i64 g.pat]]]) (fun(i:Nat)=>[]) (fun(i:Nat)=>i≤g.ao.length∧∀k v,k<i→g.ao[k]?=some v→oK v) (fun(i:Nat)=>g.ao.length-i) (0) ?_ ?_ ?_
  ·(try simp only[go_sem]);(repeat'(exact .inr (aR rfl)));done
  ·exact⟨by omega,fun k v hk=>by omega⟩
  rintro i ⟨h1,h3⟩
  simp only[go_sem]
  have hl6:g.ao.length≤6:=by omega
  have hl40:g.aT.length≤40:=O5 ae)
 |(
  refine⟨i+1,?_,?_,?_⟩
  ·(try simp only[go_sem]);(try rw[av ab ab]);(repeat'(first|refine And.intro ?_ ?_|exact .inr rfl|exact .inr (aR rfl)));done
  ·exact⟨by omega,pc h3 hx ⟨by omega,by omega,by omega,Jo ae⟩⟩
  ·(try simp only[]);omega)
 |(
  refine aa.ret ?_
  simp only[go_sem];first|exact⟨[],.v _,rfl,rfl,⟨false,rfl,by simp⟩,rfl⟩|exact⟨[],.v _,rfl,rfl,⟨true,rfl,fun _=>⟨by omega,by omega,fun v hv=>by obtain⟨k,hk⟩:=List.mem_iff_getElem?.1 hv;exact h3 k v (by have:=bM hk;omega) hk⟩⟩,rfl⟩)
 |refine aa.fin ae ?_)
theorem O3{g:Gt}{k:Nat}{w:Vn}(h:g.ao[k]?=some w):cq g k w=g:=by
 unfold cq
 have e:g.ao.set k w=g.ao:=by
  apply List.ext_getElem?
  intro j
  rw[List.getElem?_set]
  split
  ·rename_i e;subst e;split
   ·exact h.symm
   ·rename_i hlt;rw[List.getElem?_eq_none ab]
  ·rfl
 rw[e]
theorem XC(g:Gt)(k:Nat)(w:Vn)(x:Ex)(hk:k<g.ao.length)(hl:g.ao.length≤1000000):ai E 177 [aO g,i64 (k:Int),.agg [aV w.book.ak,cg w.book.al,.sl none 1 (w.book.ids.map str++[str x.id]),i64 w.book.clock,i64 2,aV w.ax,i64 w.last,bl w.bB]] (fun r t=>r=aO (cq g k (js w x))∧t=[]):=by
 have h:=lk g k (js w x) hk hl
 have e:(.agg [aV w.book.ak,cg w.book.al,.sl none 1 (w.book.ids.map str++[str x.id]),i64 w.book.clock,i64 2,aV w.ax,i64 w.last,bl w.bB]:AV)=aS (js w x):=by simp[js]
 rw[e]
 exact h
theorem LQ(g:Gt)(n:Int)(x:Ex)(hg:bP g)(hlm:cU g.aT)(ha:ba g n=false):ai E 114 [aO g,i64 n,ar x] (fun r t=>r= .aC [aO g,i64 0,i64 1]∧t=[]):=by
 have hgi:=hg.fit
 refine ai.aw (n:=158) (rs:=[.cell 6 58,.tmp 7,.tmp 8]) Tryz.func114 rfl Tryz.ntmps114 rfl ?_
 repeat'(first
 |refine aa.aj fun K hK=>?_
 |(refine aa.region ?_;simp only[go_sem,ha])
 |(refine aa.here 14 111 12 rfl ?_;refine aa.gZ (.take 1 (.take 2 (.take 3 (.take 5 (.take 6 (.fork (.alt 0 (.fork (.alt 4 (.take 7 (.take 8 (.take 9 (.take 10 (.take 11 .done))))) (.alt 7 (.take 4 (.take 8 (.take 9 (.take 10 (.take 11 .done))))) .ends))) (.alt 7 (.take 0 (.take 4 (.take 8 (.take 9 (.take 10 (.take 11 .done)))))) .ends)))))))) [[],[],[1],[1,2],[0,1,2,3],[],[5],[5,6],[0,1,2,3,4,5,6,7],[0,1,2,3,4,5,6,7,8],[0,1,2,3,4,5,6,7,8,9],[0,1,2,3,4,5,6,7,8,9,10]] [] af af ?_;simp only[go_sem,ha])
 |(refine aa.here 21 140 14 rfl ?_;refine aa.gZ (.take 1 (.take 2 (.take 3 (.take 4 (.take 6 (.take 7 (.take 8 (.take 9 (.take 10 (.take 0 (.take 5 (.take 11 (.take 12 (.take 13 .done)))))))))))))) [[],[],[1],[],[1,2,3],[0,1,2,3,4],[],[6],[],[8],[6,7,8,9],[0,1,2,3,4,5,6,7,8,9,10],[0,1,2,3,4,5,6,7,8,9,10,11],[0,1,2,3,4,5,6,7,8,9,10,11,12]] [] af af ?_;simp only[go_sem,ha])
 |(refine hK _ ?_;clear hK K)
 |refine aa.block ?_
 |refine aa.cond rfl (fun c=>?_) (fun c=>?_)<;>first|exact Bool.noConfusion c|(try simp only[dD] at c)
 |refine aa.skip ?_
 |(refine aa.exit ?_;simp only[go_sem,ha])
 |(refine ah.one (fE g n hgi hlm) af rfl ?_;simp only[go_sem,ha])
 |(refine ah.one (uC ) af rfl ?_;simp only[go_sem,ha])
 |(refine ah.one (fY _ _ (by first|assumption|omega|(simp only[List.length_take];omega))) af rfl ?_;simp only[go_sem,ha])
 |(refine ah.one (lk ) af rfl ?_;simp only[go_sem,ha])
 |(refine aL.cc (fun h=>?_) (fun h=>?_)<;>simp only[h,go_sem,ha]<;>(try simp only[dD] at h))
 |(refine aL.split (fun h=>?_) (fun h=>?_)<;>simp only[h,go_sem,ha]<;>(try simp only[dD] at h))
 |(refine aM.bG ae ?_;(try simp only[go_sem,ha]))
 |(refine aM.gj ae ?_;(try simp only[go_sem,ha]))
 |((first|refine aM.nth ?_ (fun b hb=>?_)|refine aM.oU ?_ (fun b hb=>?_)|with_reducible refine And.intro ?_ ?_);(focus(first|omega|assumption|exact List.length_pos_iff.2 ae |(simp only[List.length_append,List.length_cons,List.length_nil,List.length_map,List.length_take,List.length_drop] at *;omega)|(rw[av ab ab];omega)|(simp;done)|(simp[cJ];done)|(exact⟨by omega,by omega⟩)));(try simp only[hb,go_sem,ha]))
 |exact rfl
 |refine And.intro (a:=ah _ _ _ _ _ _ _ _) ?_ ?_
 |refine And.intro (a:=aM _ _) ?_ ?_
 |refine And.intro (a:=aL _ _ _ _ _ _ _) ?_ ?_
 |(
  refine aa.ret ?_
  refine aB.is ?_;simp only[go_sem,aE,aI,aH,aG,aJ,aF]<;>(first|exact⟨⟨rfl,rfl,rfl,rfl,rfl⟩,rfl,rfl⟩|(simp;done)|skip))
 |(exfalso;simp_all;done)
 |refine aa.fin ae ?_)
theorem Qe(g:Gt)(k:Nat)(w:Vn)(x:Ex)(hg:bP g)(hlm:cU g.aT)(hx0:g.ao[k]?=some w)(ha:ba g (k:Int)=true)(hxo:iF x)(nb:Bk)(hcf:bj w.book x=(nb,0)):ai E 114 [aO g,i64 (k:Int),ar x] (fun r t=>r= .aC [aO (cr g (k:Int) x).1,i64 (cr g (k:Int) x).2.1,i64 (cr g (k:Int) x).2.2]∧t=[]):=by
 have hgi:=hg.fit
 have hg1:=hg.1
 have hn:=bM hx0
 have hv:=hgi.2.2 w (List.mem_of_getElem? hx0)
 have hrv:=iH (jW ha hx0)
 have hidl:=(hg.2.2 w (List.mem_of_getElem? hx0)).2.2.1
 refine ai.aw (n:=158) (rs:=[.cell 6 58,.tmp 7,.tmp 8]) Tryz.func114 rfl Tryz.ntmps114 rfl ?_
 repeat'(first
 |refine aa.aj fun K hK=>?_
 |(refine aa.region ?_;simp only[go_sem,ha])
 |(refine aa.here 14 111 12 rfl ?_;refine aa.gZ (.take 1 (.take 2 (.take 3 (.take 5 (.take 6 (.fork (.alt 0 (.fork (.alt 4 (.take 7 (.take 8 (.take 9 (.take 10 (.take 11 .done))))) (.alt 7 (.take 4 (.take 8 (.take 9 (.take 10 (.take 11 .done))))) .ends))) (.alt 7 (.take 0 (.take 4 (.take 8 (.take 9 (.take 10 (.take 11 .done)))))) .ends)))))))) [[],[],[1],[1,2],[0,1,2,3],[],[5],[5,6],[0,1,2,3,4,5,6,7],[0,1,2,3,4,5,6,7,8],[0,1,2,3,4,5,6,7,8,9],[0,1,2,3,4,5,6,7,8,9,10]] [] af af ?_;simp only[go_sem,ha])
 |(refine aa.here 21 140 14 rfl ?_;refine aa.gZ (.take 1 (.take 2 (.take 3 (.take 4 (.take 6 (.take 7 (.take 8 (.take 9 (.take 10 (.take 0 (.take 5 (.take 11 (.take 12 (.take 13 .done)))))))))))))) [[],[],[1],[],[1,2,3],[0,1,2,3,4],[],[6],[],[8],[6,7,8,9],[0,1,2,3,4,5,6,7,8,9,10],[0,1,2,3,4,5,6,7,8,9,10,11],[0,1,2,3,4,5,6,7,8,9,10,11,12]] [] af af ?_;simp only[go_sem,ha])
 |(refine hK _ ?_;clear hK K)
 |refine aa.block ?_
 |refine aa.cond rfl (fun c=>?_) (fun c=>?_)<;>first|exact Bool.noConfusion c|(try simp only[dD] at c)
 |refine aa.skip ?_
 |(refine aa.exit ?_;simp only[go_sem,ha])
 |(refine ah.one (fE g (k:Int) hgi hlm) af rfl ?_;simp only[go_sem,ha])
 |(refine ah.one (uC w.book x hxo hv.1 hv.2.1 hv.2.2.1) af rfl ?_;simp only[hcf];simp only[go_sem,ha])
 |(refine ah.one (fY w.ax x.ord hv.2.2.2) af rfl ?_;simp only[go_sem,ha])
 |(refine ah.one (lk ) af rfl ?_;simp only[go_sem,ha])
 |(refine aL.cc (fun h=>?_) (fun h=>?_)<;>simp only[h,go_sem,ha]<;>(try simp only[dD] at h))
 |(refine aL.split (fun h=>?_) (fun h=>?_)<;>simp only[h,go_sem,ha]<;>(try simp only[dD] at h))
 |(refine aM.bG ae ?_;(try simp only[go_sem,ha]))
 |(refine aM.gj ae ?_;(try simp only[go_sem,ha]))
 |((first|refine aM.nth ?_ (fun b hb=>?_)|refine aM.oU ?_ (fun b hb=>?_)|with_reducible refine And.intro ?_ ?_);(focus(first|omega|assumption|exact List.length_pos_iff.2 ae |(simp only[List.length_append,List.length_cons,List.length_nil,List.length_map,List.length_take,List.length_drop] at *;omega)|(rw[av ab ab];omega)|(simp;done)|(simp[cJ];done)|(exact⟨by omega,by omega⟩)));(try simp only[hb,go_sem,ha]))
 |exact rfl
 |refine And.intro (a:=ah _ _ _ _ _ _ _ _) ?_ ?_
 |refine And.intro (a:=aM _ _) ?_ ?_
 |refine And.intro (a:=aL _ _ _ _ _ _ _) ?_ ?_
 |(
  refine aa.ret ?_
  refine aB.is ?_;simp only[go_sem,aE,aI,aH,aG,aJ,aF]<;>(first|(rw[Cx ha hx0 hcf ab];first|done|exact⟨⟨rfl,rfl,rfl,rfl,rfl⟩,rfl,rfl⟩|(simp;done))|skip))
 |refine aa.fin ae ?_)
end Go.Proofs.YtajeeghgiilhiaaGreat
end
section
namespace Go.Bk
open Go Go.Abs
def l6(x:Ex)(o:Od):Bool:=decide (o.acc=x.acc)&&decide (o.sym=x.sym)&&decide (o.az=x.az)&&decide (o.aq=x.aq)&&decide (o.aA=x.aA)&&(decide (¬x.kind=1)||decide (o.done=0))
def fM(l:List Od)(x:Ex):Int:=match b7 l x.ord with
 |some m=>(match l[m]? with
  |some o=>if l6 x o then(m:Int) else -1
  |none=>-1)
 |none=>-1
section
variable{l:List Od}{x:Ex}{m:Nat}{o:Od}
theorem DR(h:bW l x.ord<0):bW l x.ord=fM l x:=by
 unfold fM bW at *
 cases hp:b7 l x.ord with
 |none=>rfl
 |some n=>rw[hp] at h;simp only at h;omega
theorem UT(hp:b7 l x.ord=some m)(ho:l[m]?=some o)(h:l6 x o=false):(-1:Int)=fM l x:=by
 unfold fM;rw[hp];simp only[ho,h];rfl
theorem Ks(hp:b7 l x.ord=some m)(ho:l[m]?=some o)(h:l6 x o=true):(m:Int)=fM l x:=by
 unfold fM;rw[hp];simp only[ho,h];rfl
theorem Q7(hid:o.id=x.ord)(hk:x.kind=1∨x.kind=4):ic x o=l6 x o:=by
 unfold ic l6
 rw[decide_eq_true hid,Bool.true_and]
 rcases hk with hk|hk<;>simp[hk]
theorem BU(hr:bd l=true)(hk:x.kind=1∨x.kind=4):eK l x=if fM l x<0 then none else some (fM l x).toNat:=by
 unfold fM
 cases hp:b7 l x.ord with
 |none=>
  simp only[]
  rw[if_pos ab]
  unfold eK
  rw[List.findIdx?_eq_none_iff]
  intro o ho
  have h2:(b7 l x.ord).isNone=true:=by rw[hp];rfl
  rw[oC,decide_eq_true_eq] at h2
  have h3:¬o.id=x.ord:=fun e=>h2 (List.mem_map.2 ⟨o,ho,e⟩)
  unfold ic;rw[decide_eq_false h3];simp
 |some m=>
  obtain⟨o,h1,h2,h3⟩:=nH hp
  simp only[h1]
  have hf:=Q7 (o:=o) h2 hk
  cases ht:l6 x o with
  |true=>
   rw[if_pos rfl,if_neg ab,Int.toNat_natCast]
   unfold eK
   obtain⟨hm,he⟩:=List.getElem?_eq_some_iff.1 h1
   refine List.findIdx?_eq_some_iff_getElem.2 ⟨hm,by rw[he,hf,ht],fun j hj=>?_⟩
   have:=h3 j l[j] hj (List.getElem?_eq_getElem ab)
   unfold ic;rw[decide_eq_false this];simp
  |false=>
   simp only[Bool.false_eq_true,if_false]
   rw[if_pos ay]
   unfold eK
   rw[List.findIdx?_eq_none_iff]
   intro p hpm
   by_cases hid:p.id=x.ord
   ·
    obtain⟨j,hj⟩:=List.mem_iff_getElem?.1 hpm
    have hnd:=(jO.1 hr).2.2
    have e1:(l.map (·.id))[j]?=some x.ord:=by rw[List.getElem?_map,hj];simp[hid]
    have e2:(l.map (·.id))[m]?=some x.ord:=by rw[List.getElem?_map,h1];simp[h2]
    have:j=m:=(List.getElem?_inj (bM e1) hnd).1 (e1.trans e2.symm)
    subst this
    rw[h1] at hj;cases hj
    rw[hf,ht]
   ·unfold ic;rw[decide_eq_false hid];simp
theorem Fs(hr:bd l=true)(hk:x.kind=1∨x.kind=4)(h:fM l x<0):eK l x=none:=by rw[BU hr hk,if_pos h]
theorem Aj(hr:bd l=true)(hk:x.kind=1∨x.kind=4){p:Nat}(h:(p:Int)=fM l x):eK l x=some p:=by rw[BU hr hk,←h,if_neg ab,Int.toNat_natCast]
theorem Xt{p:Nat}(h:(p:Int)=fM l x):p<l.length:=by
 unfold fM at h
 cases hp:b7 l x.ord with
 |none=>rw[hp] at h;simp only at h;omega
 |some m=>
  obtain⟨o,h1,h2,h3⟩:=nH hp
  rw[hp] at h;simp only[h1] at h
  split at h
  ·have:p=m:=by omega
   subst this;exact bM h1
  ·omega
end
theorem GF{b nb:Bk}{x:Ex}{kk:Int}(hr:aW b=true)(h:bj b x=(nb,kk))(hk:kk=2∨kk=4):nb=b:=by
 unfold bj at h
 split at h
 ·unfold bX at h
  split at h
  ·cases h;rfl
  split at h
  ·cases h;rfl
  ·simp only at h
   split at h
   ·cases h;omega
   ·cases h;omega
 ·cases h;rfl
theorem Ez{b:Bk}{x:Ex}:0≤(bj b x).2∧(bj b x).2≤4:=by
 unfold bj
 split
 ·unfold bX
  split
  ·simp
  split
  ·simp
  ·simp only
   split<;>simp
 ·simp
end Go.Bk
end
