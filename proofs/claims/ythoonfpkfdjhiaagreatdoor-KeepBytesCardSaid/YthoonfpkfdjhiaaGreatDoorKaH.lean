/- Texts of one chain, put together (M2, X1, KpB, KpC, KpD, KpF, KpG, Lo, Lu, Lv, Lr, Ls, Lh, Lt, C0, Cr, Lp). -/
import Derived.Test.YthoonfpkfdjhiaaGreatDoorKaG
import Derived.Test.YthoonfpkfdjhiaaGreatDoorKaE
import Derived.Laws.MakeOwn
import Derived.Test.YthoonfpkfdjhiaaGreatDoorProg
import Derived.Tactics
import Derived.Tactics2
import Derived.Defers
import Derived.Laws.Pointers
import Derived.Laws.LoneSync
import Derived.RegionTactic
import Derived.RegionCalls
import Derived.ChangeAlike
import Derived.KernelRfl
set_option linter.unusedVariables false
set_option linter.unusedSimpArgs false
set_option maxHeartbeats 16000000
set_option maxRecDepth 8000
section
namespace Go.Proofs.YthoonfpkfdjhiaaGreatDoor
open Go Go.Abs Go.RowKit Go.Bk Go.Msg
abbrev mgOk(m:Mg):Prop:=m.text.length≤9223372036854775807∧exOk m.exec
theorem mgright_c(m:Mg):ACalls E 157 [mgV m] (fun r t=>r=bl (rightM m)∧t=[]):=by
 refine ACalls.of_awp (n:=113) (rs:=[.tmp 2]) Tryz.func157 rfl Tryz.ntmps157 rfl ?_
 repeat'(first
 |refine AWP.seqk fun K hK=>?_
 |(refine AWP.region ?_;simp only[go_sem,mg_eq m (bareM m)])
 |(refine AWP.here 17 62 8 rfl ?_;apply AWP.regionAnyJ (.take 0 (.take 1 (.take 2 (.take 4 (.fork (.alt 3 (.take 5 (.take 6 (.take 7 .done))) (.alt 5 (.take 3 (.take 6 (.take 7 .done))) .ends))))))) [[],[0],[],[2],[0,1],[0,1,4],[0,1,2,3,4,5],[0,1,2,3,4,5,6]] [] (by kernel_rfl) (by kernel_rfl) (by decide);simp only[go_sem,mg_eq m (bareM m)])
 |(refine AWP.here 20 83 8 rfl ?_;apply AWP.regionAnyJ (.take 0 (.take 1 (.take 2 (.take 4 (.fork (.alt 3 (.take 5 (.take 6 (.take 7 .done))) (.alt 5 (.take 3 (.take 6 (.take 7 .done))) .ends))))))) [[],[0],[],[2],[0,1],[0,1,4],[0,1,2,3,4,5],[0,1,2,3,4,5,6]] [] (by kernel_rfl) (by kernel_rfl) (by decide);simp only[go_sem,mg_eq m (bareM m)])
 |(refine hK _ ?_;clear hK K)
 |refine AWP.block ?_
 |refine AWP.cond rfl (fun c=>?_) (fun c=>?_)<;>first|exact Bool.noConfusion c|(try simp only[dD] at c)
 |refine AWP.skip ?_
 |(refine ACall.one (msmall_c _) (by kernel_rfl) rfl ?_;simp only[go_sem,mg_eq m (bareM m)])
 |(refine ACall.one (mwhen_c _) (by kernel_rfl) rfl ?_;simp only[go_sem,mg_eq m (bareM m)])
 |(refine ACall.one (msays_c _) (by kernel_rfl) rfl ?_;simp only[go_sem,mg_eq m (bareM m)])
 |(refine ACall.one (mexec_c _) (by kernel_rfl) rfl ?_;simp only[go_sem,mg_eq m (bareM m)])
 |(refine AGuard.splitN (fun h=>?_) (fun h=>?_)<;>simp only[h,go_sem,mg_eq m (bareM m)]<;>(try simp only[dD] at h))
 |(refine AGuard.split (fun h=>?_) (fun h=>?_)<;>simp only[h,go_sem,mg_eq m (bareM m)]<;>(try simp only[dD] at h))
 |exact rfl
 |(
  refine AWP.ret ?_
  refine AEnd.is ?_;simp only[go_sem,out_v,out_s,out_n,v_int,v_bool,v_str]<;>(((try clear hK);obtain⟨kind,seq,time,copy,a,b,gap,text,⟨e1,e2,e3,e4,e5,e6,e7,e8,e9,e10⟩⟩:=m;rw[Bool.eq_iff_iff];simp_all[rightM,okM,bareM,zeroX,and_assoc];done))))
theorem r5short_c(m:Mg):ACalls E 24 [mgV m] (fun r t=>(∃b:Bool,r=bl b)∧t=[]):=by
 refine ACalls.of_awp (n:=42) (rs:=[.tmp 2]) Tryz.func24 rfl Tryz.ntmps24 rfl ?_
 repeat'(first
 |refine AWP.seqk fun K hK=>?_
 |(refine AWP.region ?_;simp only[go_sem])
 |(refine hK _ ?_;clear hK K)
 |(refine AGuard.split (fun h=>?_) (fun h=>?_)<;>simp only[h,go_sem]<;>(try simp only[dD] at h))
 |(
  refine AWP.ret ?_
  (simp only[go_sem];exact⟨[],.v _,rfl,rfl,⟨_,rfl⟩,rfl⟩)))
end Go.Proofs.YthoonfpkfdjhiaaGreatDoor
end
section
namespace Go.Proofs.YthoonfpkfdjhiaaGreatDoor
open Go Go.Abs Go.RowKit Go.Bk Go.Msg Go.Txt
abbrev odV(o:Od):AV:= .agg [str o.id,str o.acc,str o.sym,bl o.buy,i64 o.qty,i64 o.price,i64 o.done,bl o.opn]
abbrev lmV(x:Lm):AV:= .agg [str x.acc,str x.sym,i64 x.long,i64 x.short,i64 x.qty,i64 x.value]
abbrev akV(a:Ak):AV:= .agg [i64 a.kind,i64 a.venue,str a.ord.id,str a.ord.acc,str a.ord.sym,bl a.ord.buy,i64 a.ord.qty,i64 a.ord.price,i64 a.ord.done,bl a.ord.opn,str a.id,
 str a.exec.id,str a.exec.ref,str a.exec.ord,str a.exec.acc,str a.exec.sym,i64 a.exec.kind,bl a.exec.buy,i64 a.exec.qty,i64 a.exec.price,i64 a.exec.time,i64 a.now,bl a.on,
 str a.lim.acc,str a.lim.sym,i64 a.lim.long,i64 a.lim.short,i64 a.lim.qty,i64 a.lim.value]
abbrev akOk(a:Ak):Prop:=a.ord.id.length≤9223372036854775807∧a.ord.acc.length≤9223372036854775807∧a.ord.sym.length≤9223372036854775807∧a.id.length≤9223372036854775807∧a.lim.acc.length≤9223372036854775807∧a.lim.sym.length≤9223372036854775807∧exOk a.exec
theorem plain_e1{a:Ak}(k:a.kind=1):plainA a=⟨1,a.venue,⟨a.ord.id,a.ord.acc,a.ord.sym,a.ord.buy,a.ord.qty,a.ord.price,0,false⟩,[],⟨[],[],[],[],[],0,false,0,0,0⟩,0,false,⟨[],[],0,0,0,0⟩⟩:=by unfold plainA;rw[if_pos k];rfl
theorem plain_e2{a:Ak}(k:a.kind=2):plainA a=⟨2,a.venue,⟨a.ord.id,[],[],false,a.ord.qty,a.ord.price,0,false⟩,a.id,zeroX,0,false,Txt.zeroL⟩:=by unfold plainA;rw[if_neg (by omega),if_pos k]
theorem plain_e3{a:Ak}(k:a.kind=3):plainA a=⟨3,a.venue,Txt.zeroO,[],a.exec,0,false,Txt.zeroL⟩:=by unfold plainA;rw[if_neg (by omega),if_neg (by omega),if_pos k]
theorem plain_e4{a:Ak}(k:a.kind=4):plainA a=⟨4,0,Txt.zeroO,[],zeroX,a.now,false,Txt.zeroL⟩:=by unfold plainA;rw[if_neg (by omega),if_neg (by omega),if_neg (by omega),if_pos k]
theorem plain_e5{a:Ak}(k:a.kind=5):plainA a=⟨5,0,Txt.zeroO,[],zeroX,0,a.on,Txt.zeroL⟩:=by unfold plainA;rw[if_neg (by omega),if_neg (by omega),if_neg (by omega),if_neg (by omega),if_pos k]
theorem plain_e6{a:Ak}(k:a.kind=6):plainA a=⟨6,a.venue,Txt.zeroO,[],zeroX,0,a.on,Txt.zeroL⟩:=by unfold plainA;rw[if_neg (by omega),if_neg (by omega),if_neg (by omega),if_neg (by omega),if_neg (by omega),if_pos k]
theorem plain_e8{a:Ak}(k:a.kind=8):plainA a=⟨8,0,Txt.zeroO,[],zeroX,0,false,a.lim⟩:=by unfold plainA;rw[if_neg (by omega),if_neg (by omega),if_neg (by omega),if_neg (by omega),if_neg (by omega),if_neg (by omega),if_pos k]
theorem plain_e7{a:Ak}(k:¬a.kind=1∧¬a.kind=2∧¬a.kind=3∧¬a.kind=4∧¬a.kind=5∧¬a.kind=6∧¬a.kind=8):plainA a=⟨a.kind,a.venue,Txt.zeroO,[],zeroX,0,false,Txt.zeroL⟩:=by
 obtain⟨h1,h2,h3,h4,h5,h6,h8⟩:=k
 unfold plainA;rw[if_neg h1,if_neg h2,if_neg h3,if_neg h4,if_neg h5,if_neg h6,if_neg h8]
theorem all_no{α:Type}{f:α→Bool}{l:List α}{i:Nat}{b:α}(hb:l[i]?=some b)(h:f b=false):l.all f=false:=
 List.all_eq_false.2 ⟨b,List.mem_of_getElem? hb,by rw[h];decide⟩
theorem kvenue_c(n:Int):ACalls E 53 [i64 n] (fun r t=>r=bl (venueB n)∧t=[]):=by
 refine ACalls.of_awp (n:=9) (rs:=[.tmp 2]) Tryz.func53 rfl Tryz.ntmps53 rfl ?_
 repeat'(first
 |refine AWP.seqk fun K hK=>?_
 |(refine AWP.region ?_;simp only[go_sem])
 |(refine hK _ ?_;clear hK K)
 |(refine AGuard.split (fun h=>?_) (fun h=>?_)<;>simp only[h,go_sem]<;>(try simp only[dD] at h))
 |(
  refine AWP.ret ?_
  refine AEnd.is ?_;simp only[go_sem,out_v,out_s,out_n,v_int,v_bool,v_str]<;>(simp_all[venueB]<;>omega)))
theorem knames_c(l:List (List UInt8))(hl:l.length≤100):ACalls E 54 [.sl none 1 (l.map str)] (fun r t=>r=bl (l.all nameB)∧t=[]):=by
 refine ACalls.of_awp (n:=15) (rs:=[.tmp 2]) Tryz.func54 rfl Tryz.ntmps54 rfl ?_
 repeat'(first
 |refine AWP.seqk fun K hK=>?_
 |(refine AWP.region ?_;simp only[go_sem])
 |(refine hK _ ?_;clear hK K)
 |refine AWP.block ?_
 |refine AWP.cond rfl (fun c=>?_) (fun c=>?_)<;>(try simp only[dD] at c)
 |refine AWP.skip ?_
 |(refine AWP.exit ?_;simp only[go_sem])
 |(refine ACall.one (mname_c _) (by kernel_rfl) rfl ?_;simp only[go_sem])
 |((first|refine AGet.nth ?_ (fun b hb=>?_)|with_reducible refine And.intro ?_ ?_);(focus(first|omega|(simp;done)));(try simp only[hb,go_sem]))
 |(
  refine AWP.here 2 8 1 rfl ?_
  refine AWP.loopN (ι:=Nat) [2,4,8,9,10,11,12,13,14] (fun(i:Nat)=>[(7,i64 i)]) (fun(i:Nat)=>i≤l.length∧(l.take i).all nameB=true) (fun(i:Nat)=>l.length-i) (0) ?_ ?_ ?_
  ·(try simp only[go_sem]);(repeat'(first|fail));done
  ·exact⟨by omega,by simp⟩
  rintro i ⟨h1,h2⟩
  simp only[go_sem])
 |(
  refine⟨i+1,?_,?_,?_⟩
  ·(try simp only[go_sem]);(try rw[wrap64_id (by omega) (by omega)]);(repeat'(exact .inr rfl));done
  ·exact⟨by omega,Go.Bk.all_next hb h2 (by assumption)⟩
  ·(try simp only[]);omega)
 |(
  refine AWP.ret ?_
  refine AEnd.is ?_;simp only[go_sem,out_v,out_s,out_n,v_int,v_bool,v_str]<;>(first
  |(rw[all_no hb (by assumption)];done)
  |(rw[List.take_of_length_le (by omega)] at h2;rw[h2];done)))
 |refine AWP.fin (by assumption) ?_)
theorem knums_c(l:List Int)(hl:l.length≤100):ACalls E 55 [.sl none 1 (l.map i64)] (fun r t=>r=bl (l.all whenB)∧t=[]):=by
 refine ACalls.of_awp (n:=18) (rs:=[.tmp 2]) Tryz.func55 rfl Tryz.ntmps55 rfl ?_
 repeat'(first
 |refine AWP.seqk fun K hK=>?_
 |(refine AWP.region ?_;simp only[go_sem])
 |(refine hK _ ?_;clear hK K)
 |refine AWP.block ?_
 |refine AWP.cond rfl (fun c=>?_) (fun c=>?_)<;>first|exact Bool.noConfusion c|(try simp only[dD] at c)
 |refine AWP.skip ?_
 |(refine AWP.exit ?_;simp only[go_sem])
 |(refine AGuard.splitN (fun h=>?_) (fun h=>?_)<;>simp only[h,go_sem]<;>(try simp only[dD] at h))
 |((first|refine AGet.nth ?_ (fun b hb=>?_)|with_reducible refine And.intro ?_ ?_);(focus(first|omega|(simp;done)));(try simp only[hb,go_sem]))
 |(
  refine AWP.here 2 8 1 rfl ?_
  refine AWP.loopN (ι:=Nat) [2,4,8,9,10,11,12,13,14,15,16,17] (fun(i:Nat)=>[(7,i64 i)]) (fun(i:Nat)=>i≤l.length∧(l.take i).all whenB=true) (fun(i:Nat)=>l.length-i) (0) ?_ ?_ ?_
  ·(try simp only[go_sem]);(repeat'(first|fail));done
  ·exact⟨by omega,by simp⟩
  rintro i ⟨h1,h2⟩
  simp only[go_sem])
 |(
  refine⟨i+1,?_,?_,?_⟩
  ·(try simp only[go_sem]);(try rw[wrap64_id (by omega) (by omega)]);(repeat'(exact .inr rfl));done
  ·exact⟨by omega,Go.Bk.all_next hb h2 (by simp_all[whenB]<;>omega)⟩
  ·(try simp only[]);omega)
 |(
  refine AWP.ret ?_
  refine AEnd.is ?_;simp only[go_sem,out_v,out_s,out_n,v_int,v_bool,v_str]<;>(first
  |(rw[all_no hb (by simp_all[whenB]<;>omega)];done)
  |(rw[List.take_of_length_le (by omega)] at h2;rw[h2];done)))
 |refine AWP.fin (by assumption) ?_)
theorem r20time_c(n:Int):ACalls E 64 [i64 n] (fun r t=>r=bl (whenB n)∧t=[]):=by
 refine ACalls.of_awp (n:=9) (rs:=[.tmp 2]) Tryz.func64 rfl Tryz.ntmps64 rfl ?_
 repeat'(first
 |refine AWP.seqk fun K hK=>?_
 |(refine AWP.region ?_;simp only[go_sem])
 |(refine hK _ ?_;clear hK K)
 |(refine AGuard.split (fun h=>?_) (fun h=>?_)<;>simp only[h,go_sem]<;>(try simp only[dD] at h))
 |(
  refine AWP.ret ?_
  refine AEnd.is ?_;simp only[go_sem,out_v,out_s,out_n,v_int,v_bool,v_str]<;>(simp_all[whenB]<;>omega)))
theorem r20short_c(a:Ak):ACalls E 8 [akV a] (fun r t=>(∃b:Bool,r=bl b)∧t=[]):=by
 refine ACalls.of_awp (n:=48) (rs:=[.tmp 2]) Tryz.func8 rfl Tryz.ntmps8 rfl ?_
 repeat'(first
 |refine AWP.seqk fun K hK=>?_
 |(refine AWP.region ?_;simp only[go_sem])
 |(refine hK _ ?_;clear hK K)
 |(refine ACall.of (r5short_c ⟨0,0,0,false,0,0,false,[],a.exec⟩) (by kernel_rfl) rfl ?_;rintro r t ⟨⟨bb,rfl⟩,rfl⟩;simp only[go_sem])
 |(refine AGuard.split (fun h=>?_) (fun h=>?_)<;>simp only[h,go_sem]<;>(try simp only[dD] at h))
 |(
  refine AWP.ret ?_
  (simp only[go_sem];exact⟨[],.v _,rfl,rfl,⟨_,rfl⟩,rfl⟩)))
theorem r20plain_c(a:Ak):ACalls E 12 [akV a] (fun r t=>r=akV (plainA a)∧t=[]):=by
 refine ACalls.of_awp (n:=79) (rs:=[.cell 2 29]) Tryz.func12 rfl Tryz.ntmps12 rfl ?_
 repeat'(first
 |refine AWP.seqk fun K hK=>?_
 |(refine AWP.region ?_;simp only[go_sem])
 |(refine hK _ ?_;clear hK K)
 |refine AWP.block ?_
 |refine AWP.cond rfl (fun c=>?_) (fun c=>?_)<;>first|exact Bool.noConfusion c|(try simp only[dD] at c)
 |refine AWP.skip ?_
 |(refine AGuard.splitN (fun h=>?_) (fun h=>?_)<;>simp only[h,go_sem]<;>(try simp only[dD] at h))
 |(
  refine AWP.ret ?_
  refine AEnd.is ?_;simp only[go_sem,out_v,out_s,out_n,v_int,v_bool,v_str]<;>(first|(exfalso;omega)|(have e:=plain_e1 (by assumption);rw[e];simp[*];done)|(have e:=plain_e2 (by assumption);rw[e];simp[*,zeroX,Txt.zeroL];done)|(have e:=plain_e3 (by assumption);rw[e];simp[*,Txt.zeroO,Txt.zeroL];done)|(have e:=plain_e4 (by assumption);rw[e];simp[*,Txt.zeroO,zeroX,Txt.zeroL];done)|(have e:=plain_e5 (by assumption);rw[e];simp[*,Txt.zeroO,zeroX,Txt.zeroL];done)|(have e:=plain_e6 (by assumption);rw[e];simp[*,Txt.zeroO,zeroX,Txt.zeroL];done)|(have e:=plain_e8 (by assumption);rw[e];simp[*,Txt.zeroO,zeroX];done)|(have e:=plain_e7 ⟨by omega,by omega,by omega,by omega,by omega,by omega,by omega⟩;rw[e];simp[zeroX,Txt.zeroO,Txt.zeroL];done))))
theorem kword_c(g:Int)(v:List UInt8):ACalls E 60 [i64 g,str v] (fun r t=>r=fldV (g,v)∧t=[]):=by
 refine ACalls.of_awp (n:=8) (rs:=[.cell 4 83]) Tryz.func60 rfl Tryz.ntmps60 rfl ?_
 repeat'(first
 |refine AWP.seqk fun K hK=>?_
 |(refine AWP.region ?_;simp only[go_sem])
 |(refine hK _ ?_;clear hK K)
 |(
  refine AWP.ret ?_
  refine AEnd.is ?_;simp only[go_sem,out_v,out_s,out_n,v_int,v_bool,v_str]<;>rfl))
theorem knumber_c(g n:Int):ACalls E 59 [i64 g,i64 n] (fun r t=>r=fldV (g,Fld.showF n)∧t=[]):=by
 refine ACalls.of_awp (n:=9) (rs:=[.cell 4 83]) Tryz.func59 rfl Tryz.ntmps59 rfl ?_
 repeat'(first
 |refine AWP.seqk fun K hK=>?_
 |(refine AWP.region ?_;simp only[go_sem])
 |(refine hK _ ?_;clear hK K)
 |(refine ACall.one (nshow_c _) (by kernel_rfl) rfl ?_;simp only[go_sem])
 |(refine ACall.one (kword_c _ _) (by kernel_rfl) rfl ?_;simp only[go_sem])
 |(
  refine AWP.ret ?_
  refine AEnd.is ?_;simp only[go_sem,out_v,out_s,out_n,v_int,v_bool,v_str]<;>rfl))
theorem kflag_c(g:Int)(b:Bool):ACalls E 61 [i64 g,bl b] (fun r t=>r=fldV (g,flagW b)∧t=[]):=by
 refine ACalls.of_awp (n:=10) (rs:=[.cell 4 83]) Tryz.func61 rfl Tryz.ntmps61 rfl ?_
 repeat'(first
 |refine AWP.seqk fun K hK=>?_
 |(refine AWP.region ?_;simp only[go_sem])
 |(refine hK _ ?_;clear hK K)
 |refine AWP.cond rfl (fun c=>?_) (fun c=>?_)<;>(try simp only[dD] at c)
 |refine AWP.skip ?_
 |(refine ACall.one (kword_c _ _) (by kernel_rfl) rfl ?_;simp only[go_sem])
 |(
  refine AWP.ret ?_
  refine AEnd.is ?_;simp only[go_sem,out_v,out_s,out_n,v_int,v_bool,v_str]<;>(simp_all[flagW];done)))
end Go.Proofs.YthoonfpkfdjhiaaGreatDoor
end
section
namespace Go.Kp
def stepC(x:BitVec 32):BitVec 32:=if x.getLsbD 0 then(x >>> 1) ^^^ 3988292384#32 else x >>> 1
def stepsC:Nat→BitVec 32→BitVec 32
 |0,x=>x
 |n+1,x=>stepsC n (stepC x)
def tabC(i:BitVec 32):BitVec 32:=stepsC 8 i
def upC(s:BitVec 32)(b:UInt8):BitVec 32:=(s >>> 8) ^^^ tabC ((s ^^^ BitVec.ofNat 32 b.toNat) &&& 255#32)
def sumC(l:List UInt8):BitVec 32:= ~~~ (l.foldl upC (BitVec.allOnes 32))
abbrev Bs:=List UInt8
def be2(n:Nat):Bs:=[UInt8.ofNat (n/256),UInt8.ofNat n]
def be4(x:BitVec 32):Bs:=[UInt8.ofNat (x.toNat/16777216),UInt8.ofNat (x.toNat/65536),UInt8.ofNat (x.toNat/256),UInt8.ofNat x.toNat]
def recC(r:Bs):Bs:=be2 r.length++be4 (sumC (be2 r.length++r))++r
def bAt(b:Bs)(i:Nat):Nat:=(b.getD i 0).toNat
def headC(b:Bs):Nat:=bAt b 0*256+bAt b 1
def nextC(b:Bs):Bs×Nat×Int:=
 if b.length<6 then([],0,2) else if headC b<1∨4096<headC b then([],0,3) else if b.length<6+headC b then([],0,2)
 else if recC ((b.drop 6).take (headC b))=b.take (6+headC b) then((b.drop 6).take (headC b),6+headC b,0) else([],0,11)
def allN:Nat→Bs→List Bs×Nat
 |0,_=>([],0)
 |k+1,b=>if(nextC b).2.2=0 then((nextC b).1::(allN k (b.drop (nextC b).2.1)).1,(nextC b).2.1+(allN k (b.drop (nextC b).2.1)).2) else([],0)
def allC(b:Bs):List Bs×Nat:=allN b.length b
def goodR(r:Bs):Prop:=1≤r.length∧r.length≤4096
theorem be2_len(n:Nat):(be2 n).length=2:=rfl
theorem be4_len(x:BitVec 32):(be4 x).length=4:=rfl
theorem rec_len(r:Bs):(recC r).length=6+r.length:=by unfold recC;simp[be2_len,be4_len];omega
theorem u8n(n:Nat):(UInt8.ofNat n).toNat=n%256:=by simp
theorem head_rec(r t:Bs)(h:r.length≤65535):headC (recC r++t)=r.length:=by
 have e0:(recC r++t).getD 0 0=UInt8.ofNat (r.length/256):=rfl
 have e1:(recC r++t).getD 1 0=UInt8.ofNat r.length:=rfl
 unfold headC bAt;rw[e0,e1,u8n,u8n];omega
theorem rec_drop(r t:Bs):((recC r++t).drop 6).take r.length=r:=by
 have:recC r++t=(be2 r.length++be4 (sumC (be2 r.length++r)))++(r++t):=by unfold recC;simp
 rw[this,List.drop_append_of_le_length (by simp[be2_len,be4_len]),List.drop_of_length_le (by simp[be2_len,be4_len])]
 simp
theorem rec_take(r t:Bs):(recC r++t).take (6+r.length)=recC r:=by
 rw[List.take_append_of_le_length (by rw[rec_len];exact Nat.le_refl _),List.take_of_length_le (by rw[rec_len];exact Nat.le_refl _)]
theorem next_rec{r:Bs}(h:goodR r)(t:Bs):nextC (recC r++t)=(r,6+r.length,0):=by
 obtain⟨h1,h2⟩:=h
 have hl:(recC r++t).length=6+r.length+t.length:=by rw[List.length_append,rec_len]
 have hh:=head_rec r t (by omega)
 unfold nextC
 rw[hh,if_neg (by omega),if_neg (by omega),if_neg (by omega),rec_drop,rec_take,if_pos rfl]
theorem next_ok{b:Bs}(h:(nextC b).2.2=0):goodR (nextC b).1∧(nextC b).2.1=6+(nextC b).1.length∧b=recC (nextC b).1++b.drop (nextC b).2.1:=by
 revert h;unfold nextC
 split
 ·intro h;exact absurd h (by decide)
 ·split
  ·intro h;exact absurd h (by decide)
  ·split
   ·intro h;exact absurd h (by decide)
   ·split
    ·rename_i h1 h2 h3 h4
     intro _
     have hl:((b.drop 6).take (headC b)).length=headC b:=by rw[List.length_take,List.length_drop];omega
     refine⟨⟨by show 1≤_;rw[hl];omega,by show _≤4096;rw[hl];omega⟩,by show _=6+_;rw[hl],?_⟩
     show b=recC _++b.drop (6+headC b)
     rw[h4,List.take_append_drop]
    ·intro h;exact absurd h (by decide)
theorem allN_more:∀(k m:Nat) (b:Bs),b.length≤k→b.length≤m→allN k b=allN m b
 |0,0,_,_,_=>rfl
 |0,m+1,b,h,_=>by
  obtain rfl:=List.eq_nil_of_length_eq_zero (Nat.le_zero.1 h);rfl
 |k+1,0,b,_,h=>by
  obtain rfl:=List.eq_nil_of_length_eq_zero (Nat.le_zero.1 h);rfl
 |k+1,m+1,b,h1,h2=>by
  unfold allN
  by_cases e:(nextC b).2.2=0
  ·have hn:=(next_ok e).2.1
   have hl:(b.drop (nextC b).2.1).length≤b.length-1:=by rw[List.length_drop,hn];omega
   rw[if_pos e,if_pos e,allN_more k m _ (by omega) (by omega)]
  ·rw[if_neg e,if_neg e]
theorem all_step{b:Bs}(e:(nextC b).2.2=0):allC b=((nextC b).1::(allC (b.drop (nextC b).2.1)).1,(nextC b).2.1+(allC (b.drop (nextC b).2.1)).2):=by
 have hn:=(next_ok e).2.1
 have hb:=(next_ok e).2.2
 have hl:b.length=6+(nextC b).1.length+(b.drop (nextC b).2.1).length:=by
  conv=>lhs;rw[hb]
  rw[List.length_append,rec_len]
 unfold allC
 obtain⟨k,hk⟩:∃k,b.length=k+1:=⟨b.length-1,by omega⟩
 rw[hk]
 show(if(nextC b).2.2=0 then _ else _)=_
 rw[if_pos e,allN_more k (b.drop (nextC b).2.1).length _ (by omega) (Nat.le_refl _)]
theorem all_stop{b:Bs}(e:¬(nextC b).2.2=0):allC b=([],0):=by
 unfold allC
 cases h:b.length with
 |zero=>rfl
 |succ k=>show(if(nextC b).2.2=0 then _ else _)=_;rw[if_neg e]
def recsC(l:List Bs):Bs:=l.flatMap recC
theorem all_inv:∀(n:Nat) (b:Bs),b.length≤n→(∀r∈(allC b).1,goodR r)∧(allC b).2=(recsC (allC b).1).length∧b=recsC (allC b).1++b.drop (allC b).2∧¬(nextC (b.drop (allC b).2)).2.2=0
 |n,b,hb=>by
  by_cases e:(nextC b).2.2=0
  ·have⟨h1,h2,h3⟩:=next_ok e
   have hl:b.length=6+(nextC b).1.length+(b.drop (nextC b).2.1).length:=by
    conv=>lhs;rw[h3]
    rw[List.length_append,rec_len]
   cases n with
   |zero=>omega
   |succ n=>
    obtain⟨i1,i2,i3,i4⟩:=all_inv n (b.drop (nextC b).2.1) (by omega)
    rw[all_step e]
    refine⟨?_,?_,?_,?_⟩
    ·intro r hr
     rcases List.mem_cons.1 hr with rfl|hr
     ·exact h1
     ·exact i1 r hr
    ·simp only[recsC,List.flatMap_cons,List.length_append,rec_len] at i2 ⊢
     rw[←i2,h2]
    ·simp only[recsC,List.flatMap_cons] at i3 ⊢
     rw[←List.drop_drop,List.append_assoc,←i3,←h3]
    ·simp only
     rw[←List.drop_drop];exact i4
  ·rw[all_stop e]
   exact⟨by simp,rfl,rfl,by simpa using e⟩
theorem take_lt{r t:Bs}{k:Nat}(hr:goodR r)(hk:k<6+r.length):¬(nextC ((recC r++t).take k)).2.2=0:=by
 have hl:((recC r++t).take k).length=k:=by rw[List.length_take,List.length_append,rec_len];omega
 unfold nextC
 by_cases h6:k<6
 ·rw[if_pos (by omega)];decide
 ·have hh:headC ((recC r++t).take k)=headC (recC r++t):=by
   unfold headC bAt
   rw[List.getD_eq_getElem?_getD,List.getD_eq_getElem?_getD,List.getElem?_take_of_lt (by omega),List.getElem?_take_of_lt (by omega),←List.getD_eq_getElem?_getD,←List.getD_eq_getElem?_getD]
  rw[hh,head_rec r t (by have:=hr.2;omega),if_neg (by omega),if_neg (by have:=hr.1;have:=hr.2;omega),if_pos (by omega)]
  decide
theorem all_take:∀{l:List Bs} {k:Nat},(∀r∈l,goodR r)→∃m,m≤l.length∧allC ((recsC l).take k)=(l.take m,(recsC (l.take m)).length)∧(recsC (l.take m)).length≤k∧(m<l.length→k<(recsC (l.take (m+1))).length)
 |[],k,_=>⟨0,Nat.le_refl _,by
    have:(recsC []).take k=[]:=by simp[recsC]
    rw[this];exact all_stop (by decide),by simp[recsC],by simp⟩
 |r::l,k,h=>by
  have hr:=h r (by simp)
  have e:recsC (r::l)=recC r++recsC l:=by simp[recsC]
  by_cases hk:k<6+r.length
  ·refine⟨0,Nat.zero_le _,?_,by simp[recsC],?_⟩
   ·rw[e,all_stop (take_lt hr hk)];rfl
   ·intro _;simp[recsC,rec_len];omega
  ·obtain⟨m,h1,h2,h3,h4⟩:=all_take (l:=l) (k:=k-(6+r.length)) (fun x hx=>h x (by simp[hx]))
   have e2:(recsC (r::l)).take k=recC r++(recsC l).take (k-(6+r.length)):=by
    rw[e,List.take_append,List.take_of_length_le (by rw[rec_len];omega),rec_len]
   have hn:=next_rec hr ((recsC l).take (k-(6+r.length)))
   refine⟨m+1,by simp;omega,?_,?_,?_⟩
   ·rw[e2,all_step (by rw[hn]),hn]
    have hd:(recC r++(recsC l).take (k-(6+r.length))).drop (6+r.length)=(recsC l).take (k-(6+r.length)):=by rw[←rec_len,List.drop_left]
    simp only[hd,h2,List.take_succ_cons]
    simp[recsC,rec_len]
   ·simp only[List.take_succ_cons,recsC,List.flatMap_cons,List.length_append,rec_len] at h3 ⊢;omega
   ·intro hm
    have:=h4 (by simpa using hm)
    simp only[List.take_succ_cons,recsC,List.flatMap_cons,List.length_append,rec_len] at this ⊢;omega
structure Fi where
 safe:Bs
 tail:Bs
deriving DecidableEq
structure Dk where
 f0:Fi
 f1:Fi
deriving DecidableEq
structure Jn where
 d:Dk
 at':Int
 gen:Int
deriving DecidableEq
def maxD:Int:=4611686018427387904
def okF(f:Fi):Bool:=decide (f.safe.length+f.tail.length≤65536)
def rightD(d:Dk):Bool:=okF d.f0&&okF d.f1
def hasD(n:Int):Bool:=decide (n=0)||decide (n=1)
def fileD(d:Dk)(n:Int):Fi:=if n=0 then d.f0 else d.f1
def setD(d:Dk)(n:Int)(f:Fi):Dk:=if n=0 then⟨f,d.f1⟩ else⟨d.f0,f⟩
def allF(f:Fi):Bs:=f.safe++f.tail
def mayD(d:Dk)(n:Int):Bool:=rightD d&&hasD n
def readD(d:Dk)(n:Int):Bs:=if mayD d n=true then allF (fileD d n) else[]
def writeD(d:Dk)(n:Int)(b:Bs):Dk×Int:=
 if mayD d n=true then(if(allF (fileD d n)).length+b.length≤65536 then(setD d n ⟨(fileD d n).safe,(fileD d n).tail++b⟩,0) else(d,5)) else(d,1)
def syncD(d:Dk)(n:Int):Dk×Int:=if mayD d n=true then(setD d n ⟨allF (fileD d n),[]⟩,0) else(d,1)
def cutD(d:Dk)(n k:Int):Dk×Int:=
 if mayD d n=true∧0≤k∧k≤((allF (fileD d n)).length:Int) then(setD d n ⟨(allF (fileD d n)).take k.toNat,[]⟩,0) else(d,1)
def keepN(k:Int)(f:Fi):Fi:=⟨f.safe++f.tail.take k.toNat,[]⟩
def crashD(d:Dk)(k0 k1:Int):Dk:=if rightD d=true then⟨keepN k0 d.f0,keepN k1 d.f1⟩ else d
def genN(r:Bs):Nat:=r.foldl (fun n b=>n*256+b.toNat) 0
structure Ct where
 gen:Int
 snap:Bs
 ents:List Bs
 long:Nat
def lookJ(b:Bs):Option Ct:=
 match(allC b).1 with
 |[]=>none
 |r::l=>if 9≤r.length∧r.head?=some 71∧1≤genN ((r.drop 1).take 8)∧genN ((r.drop 1).take 8)≤4611686018427387904 then some ⟨genN ((r.drop 1).take 8),r.drop 9,l,(allC b).2⟩ else none
def be8(g:Nat):Bs:=[UInt8.ofNat (g/2^56),UInt8.ofNat (g/2^48),UInt8.ofNat (g/2^40),UInt8.ofNat (g/2^32),UInt8.ofNat (g/2^24),UInt8.ofNat (g/2^16),UInt8.ofNat (g/2^8),UInt8.ofNat g]
def firstJ(g:Int)(snap:Bs):Bs:=71::be8 g.toNat++snap
def beginJ(d:Dk)(n:Int)(g:Int)(snap:Bs):Dk:=setD d n ⟨recC (firstJ g snap),[]⟩
def openJ(d:Dk):Jn×Bs×List Bs×Int:=
 if rightD d=true then
  match lookJ (allF d.f0),lookJ (allF d.f1) with
  |none,none=>(⟨beginJ d 0 1 [],0,1⟩,[],[],0)
  |some c,none=>(⟨setD d 0 ⟨(allF d.f0).take c.long,[]⟩,0,c.gen⟩,c.snap,c.ents,0)
  |none,some c=>(⟨setD d 1 ⟨(allF d.f1).take c.long,[]⟩,1,c.gen⟩,c.snap,c.ents,0)
  |some a,some c=>if a.gen<c.gen then(⟨setD d 1 ⟨(allF d.f1).take c.long,[]⟩,1,c.gen⟩,c.snap,c.ents,0) else(⟨setD d 0 ⟨(allF d.f0).take a.long,[]⟩,0,a.gen⟩,a.snap,a.ents,0)
 else(⟨⟨⟨[],[]⟩,⟨[],[]⟩⟩,0,0⟩,[],[],1)
def mayJ(j:Jn):Bool:=rightD j.d&&hasD j.at'&&decide (1≤j.gen)&&decide (j.gen≤maxD)
def addJ(j:Jn)(b:Bs):Jn×Int:=
 if mayJ j=true∧1≤b.length∧b.length≤4000 then(if(writeD j.d j.at' (recC b)).2=0 then(⟨(writeD j.d j.at' (recC b)).1,j.at',j.gen⟩,0) else(j,5)) else(j,1)
def syncJ(j:Jn):Jn×Int:=if mayJ j=true then(⟨(syncD j.d j.at').1,j.at',j.gen⟩,0) else(j,1)
def crashJ(j:Jn)(k0 k1:Int):Dk:=crashD j.d k0 k1
def zeroD:Dk:=⟨⟨[],[]⟩,⟨[],[]⟩⟩
end Go.Kp
end
section
namespace Go.Kp
open Go.Txt
theorem recs_app(a b:List Bs):recsC (a++b)=recsC a++recsC b:=by simp[recsC]
def firstR:Bs:=[71,0,0,0,0,0,0,0,1]
theorem first_good:goodR firstR:=⟨by decide,by decide⟩
theorem first_eq:firstJ 1 []=firstR:=by decide
theorem look_first{l:List Bs}{n:Nat}{b:Bs}(h:allC b=(firstR::l,n)):lookJ b=some ⟨1,[],l,n⟩:=by
 unfold lookJ
 rw[h]
 have e:genN ((firstR.drop 1).take 8)=1:=by decide
 show(if _ then _ else _)=_
 rw[e]
 rfl
section
variable{σ:Type}(ask:σ→Ak→σ×Int×Int)
structure Ks(σ:Type) where
 jn:Jn
 g:σ
def doK(k:Ks σ)(a:Ak):Ks σ×Int×Int:=
 if mayA a=true then
  (if(ask k.g a).2.2=0 then(if(addJ k.jn (putK a).1).2=0 then(⟨(addJ k.jn (putK a).1).1,(ask k.g a).1⟩,(ask k.g a).2.1,0) else(k,0,(addJ k.jn (putK a).1).2)) else(k,0,(ask k.g a).2.2))
 else(k,0,1)
def syncK(k:Ks σ):Ks σ×Int:=if(syncJ k.jn).2=0 then(⟨(syncJ k.jn).1,k.g⟩,0) else(k,(syncJ k.jn).2)
def playK:σ→List Bs→σ
 |g,[]=>g
 |g,b::l=>if(readK b).2=0 then(if(ask g (readK b).1).2.2=0 then playK (ask g (readK b).1).1 l else g) else g
def raiseK(g0:σ)(d:Dk):Ks σ×Int:=if(openJ d).2.2.2=0 then(⟨(openJ d).1,playK ask g0 (openJ d).2.2.1⟩,0) else(⟨(openJ d).1,g0⟩,(openJ d).2.2.2)
def runK:σ→List Ak→σ
 |g,[]=>g
 |g,a::l=>runK (ask g a).1 l
def okK:σ→List Ak→Prop
 |_,[]=>True
 |g,a::l=>mayA a=true∧(ask g a).2.2=0∧okK (ask g a).1 l
def entK(l:List Ak):List Bs:=l.map fun a=>(putK a).1
theorem run_snoc:∀(l:List Ak) (g:σ) (a:Ak),runK ask g (l++[a])=(ask (runK ask g l) a).1
 |[],_,_=>rfl
 |b::l,g,a=>run_snoc l (ask g b).1 a
theorem ok_snoc:∀{l:List Ak} {g:σ} {a:Ak},okK ask g l→mayA a=true→(ask (runK ask g l) a).2.2=0→okK ask g (l++[a])
 |[],_,_,_,h1,h2=>⟨h1,h2,trivial⟩
 |b::l,g,a,h,h1,h2=>⟨h.1,h.2.1,ok_snoc h.2.2 h1 h2⟩
variable{ask}
theorem put_good{a:Ak}(h:mayA a=true):goodR (putK a).1∧(putK a).1.length≤4000:=by
 have e:putK a=(Fld.encL (fieldsA a),0):=if_pos h
 have⟨h1,h2,h3⟩:=fields_fine h
 have hl:=Fld.encL_len h1
 rw[e]
 refine⟨⟨?_,?_⟩,?_⟩
 ·cases hf:fieldsA a with
  |nil=>rw[hf] at h2;simp at h2
  |cons f l=>
   show 1≤(Fld.encL (f::l)).length
   rw[Fld.encL,List.length_append,Fld.encF]
   simp;omega
 ·show(Fld.encL (fieldsA a)).length≤4096;omega
 ·show(Fld.encL (fieldsA a)).length≤4000;omega
theorem ent_good{g:σ}:∀{l:List Ak} {g:σ},okK ask g l→∀r∈entK l,goodR r
 |[],_,_,r,hr=>by simp[entK] at hr
 |a::l,g,h,r,hr=>by
  simp only[entK,List.map_cons,List.mem_cons] at hr
  rcases hr with rfl|hr
  ·exact(put_good h.1).1
  ·exact ent_good (g:=g) h.2.2 r hr
structure InvK(ask:σ→Ak→σ×Int×Int)(g0:σ)(k:Ks σ)(l:List Ak)(s:Nat):Prop where
 ok:okK ask g0 l
 g:k.g=runK ask g0 l
 at':k.jn.at'=0
 gen:k.jn.gen=1
 right:rightD k.jn.d=true
 f1:k.jn.d.f1=⟨[],[]⟩
 sl:s≤l.length
 safe:k.jn.d.f0.safe=recsC (firstR::entK (l.take s))
 tail:k.jn.d.f0.tail=recsC (entK (l.drop s))
theorem inv_all{g0:σ}{k:Ks σ}{l:List Ak}{s:Nat}(h:InvK ask g0 k l s):allF k.jn.d.f0=recsC (firstR::entK l):=by
 unfold allF;rw[h.safe,h.tail,←recs_app]
 congr 1
 rw[List.cons_append]
 congr 1
 unfold entK;rw[←List.map_append,List.take_append_drop]
theorem inv_may{g0:σ}{k:Ks σ}{l:List Ak}{s:Nat}(h:InvK ask g0 k l s):mayJ k.jn=true∧mayD k.jn.d k.jn.at'=true:=by
 unfold mayJ mayD hasD maxD;rw[h.right,h.at',h.gen];exact⟨by decide,by decide⟩
theorem okF_len{f:Fi}:okF f=true↔f.safe.length+f.tail.length≤65536:=by unfold okF;simp
theorem right_iff{d:Dk}:rightD d=true↔(d.f0.safe.length+d.f0.tail.length≤65536∧d.f1.safe.length+d.f1.tail.length≤65536):=by
 unfold rightD;rw[Bool.and_eq_true,okF_len,okF_len]
theorem open_zero:openJ zeroD=(⟨⟨⟨recC firstR,[]⟩,⟨[],[]⟩⟩,0,1⟩,[],[],0):=by
 unfold openJ
 rw[if_pos (by decide),show lookJ (allF zeroD.f0)=none from rfl,show lookJ (allF zeroD.f1)=none from rfl]
 show((⟨beginJ zeroD 0 1 [],0,1⟩,[],[],0):Jn×Bs×List Bs×Int)=_
 unfold beginJ;rw[first_eq];rfl
theorem inv_new(g0:σ):InvK ask g0 (raiseK ask g0 zeroD).1 [] 0∧(raiseK ask g0 zeroD).2=0:=by
 unfold raiseK;rw[open_zero]
 refine⟨⟨trivial,rfl,rfl,rfl,?_,rfl,Nat.le_refl _,?_,rfl⟩,rfl⟩
 ·show rightD ⟨⟨recC firstR,[]⟩,⟨[],[]⟩⟩=true
  rw[right_iff];simp[rec_len,firstR]
 ·show recC firstR=_;simp[recsC,entK]
theorem add_inv{g0:σ}{k:Ks σ}{l:List Ak}{s:Nat}(h:InvK ask g0 k l s){b:Bs}(hb:goodR b)(hl:b.length≤4000):
 (addJ k.jn b).2=0→(addJ k.jn b).1=⟨⟨⟨k.jn.d.f0.safe,k.jn.d.f0.tail++recC b⟩,⟨[],[]⟩⟩,0,1⟩∧rightD (addJ k.jn b).1.d=true:=by
 have hm:=inv_may h
 unfold addJ
 rw[if_pos ⟨hm.1,hb.1,hl⟩]
 unfold writeD
 rw[if_pos hm.2,h.at',h.gen]
 split
 ·rename_i hlen
  intro _
  show(⟨setD k.jn.d 0 ⟨k.jn.d.f0.safe,k.jn.d.f0.tail++recC b⟩,0,1⟩:Jn)=_∧_
  have e:setD k.jn.d 0 ⟨k.jn.d.f0.safe,k.jn.d.f0.tail++recC b⟩=⟨⟨k.jn.d.f0.safe,k.jn.d.f0.tail++recC b⟩,⟨[],[]⟩⟩:=by unfold setD;rw[if_pos rfl,h.f1]
  refine⟨by rw[e],?_⟩
  show rightD (setD k.jn.d 0 ⟨k.jn.d.f0.safe,k.jn.d.f0.tail++recC b⟩)=true
  rw[e,right_iff]
  refine⟨?_,by simp⟩
  have hlen:(allF k.jn.d.f0).length+(recC b).length≤65536:=hlen
  unfold allF at hlen
  simp only[List.length_append] at hlen ⊢
  omega
 ·intro hc
  have hc:(5:Int)=0:=hc
  omega
theorem do_inv{g0:σ}{k:Ks σ}{l:List Ak}{s:Nat}(h:InvK ask g0 k l s)(a:Ak):
 ((doK ask k a).2.2=0→InvK ask g0 (doK ask k a).1 (l++[a]) s)∧(¬(doK ask k a).2.2=0→(doK ask k a).1=k∧(doK ask k a).2.1=0):=by
 unfold doK
 by_cases h1:mayA a=true
 ·rw[if_pos h1]
  by_cases h2:(ask k.g a).2.2=0
  ·rw[if_pos h2]
   by_cases h3:(addJ k.jn (putK a).1).2=0
   ·rw[if_pos h3]
    refine⟨fun _=>?_,fun x=>absurd rfl x⟩
    obtain⟨e,hr⟩:=add_inv h (put_good h1).1 (put_good h1).2 h3
    rw[h.g] at h2
    refine⟨ok_snoc ask h.ok h1 h2,?_,?_,?_,hr,?_,?_,?_,?_⟩
    ·show(ask k.g a).1=_;rw[run_snoc,h.g]
    ·show(addJ k.jn (putK a).1).1.at'=0;rw[e]
    ·show(addJ k.jn (putK a).1).1.gen=1;rw[e]
    ·show(addJ k.jn (putK a).1).1.d.f1=_;rw[e]
    ·have:=h.sl;simp;omega
    ·show(addJ k.jn (putK a).1).1.d.f0.safe=_;rw[e,List.take_append_of_le_length h.sl];exact h.safe
    ·show(addJ k.jn (putK a).1).1.d.f0.tail=_
     rw[e,List.drop_append_of_le_length h.sl]
     show k.jn.d.f0.tail++recC (putK a).1=_
     rw[h.tail];unfold entK;rw[List.map_append,recs_app];simp[recsC]
   ·rw[if_neg h3]
    exact⟨fun x=>absurd x h3,fun _=>⟨rfl,rfl⟩⟩
  ·rw[if_neg h2]
   exact⟨fun x=>absurd x h2,fun _=>⟨rfl,rfl⟩⟩
 ·rw[if_neg h1]
  exact⟨fun x=>absurd (show(1:Int)=0 from x) (by decide),fun _=>⟨rfl,rfl⟩⟩
theorem sync_inv{g0:σ}{k:Ks σ}{l:List Ak}{s:Nat}(h:InvK ask g0 k l s):(syncK k).2=0∧InvK ask g0 (syncK k).1 l l.length∧(syncK k).1.g=k.g:=by
 have hm:=inv_may h
 have e:syncJ k.jn=(⟨⟨⟨allF k.jn.d.f0,[]⟩,⟨[],[]⟩⟩,0,1⟩,0):=by
  unfold syncJ syncD
  rw[if_pos hm.1,if_pos hm.2,h.at',h.gen]
  unfold setD fileD;rw[if_pos rfl,if_pos rfl,h.f1]
 unfold syncK;rw[e,if_pos rfl]
 refine⟨rfl,⟨h.ok,h.g,rfl,rfl,?_,rfl,Nat.le_refl _,?_,?_⟩,rfl⟩
 ·have:=(right_iff.1 h.right).1
  rw[right_iff]
  simp only[allF,List.length_append,List.length_nil]
  omega
 ·show allF k.jn.d.f0=_
  rw[inv_all h,List.take_of_length_le (Nat.le_refl _)]
 ·show[]=_
  rw[List.drop_of_length_le (Nat.le_refl _)];rfl
theorem ent_take(l:List Ak)(n:Nat):entK (l.take n)=(entK l).take n:=by unfold entK;rw[List.map_take]
theorem keep_file{f:Fi}(n:Int):allF (keepN n f)=(allF f).take (f.safe.length+n.toNat):=by
 unfold allF keepN
 rw[List.append_nil,List.take_append,List.take_of_length_le (Nat.le_add_right _ _)]
 simp
end
theorem look_inv{b:Bs}{c:Ct}(h:lookJ b=some c):(allC b).2=c.long∧∃r,(allC b).1=r::c.ents:=by
 unfold lookJ at h
 cases e:(allC b).1 with
 |nil=>rw[e] at h;simp at h
 |cons r l=>
  rw[e] at h
  simp only at h
  split at h
  ·simp only[Option.some.injEq] at h;subst h;exact⟨rfl,r,rfl⟩
  ·simp at h
end Go.Kp
end
section
namespace Go.Abs
open Go Go.RowKit
theorem AWPL.makeS{E:Env}{Q:Exit→St→Prop}{st:St}{ops:Array Oper}{l:List Oper}{dst:Option Tmp}{t ty:TypeId}{pos:String}{after:Array Edge}{x y:Operand}{kl kc:IntKind}{e:TypeId}{k n m:Nat}{zs zs':List AV}
 (hai:appInfo E.P t=some (e,k,n)) (hzv:tzero E.P e=some zs) (hx:st.ev x= .v (.int kl (m:Int))) (hy:st.ev y= .v (.int kc (m:Int))) (hl:zs'.length=zs.length) (hzz:∀(j:Nat) (z z':AV),zs[j]?=some z→zs'[j]?=some z'→z'=z∨(z= .nilS∧∃q,z'= .sl none q [])) (hm:m≤1000) (hk:k≤1000) (hn:n≤100000)
 (h:AWPL E ops l Q (St.put { st with tk:=st.tk++[m] } dst (.sl (some st.tk.length) k (List.replicate m (.agg zs'))))):AWPL E ops (⟨dst,.makeSlice t x y,ty,pos,after,none⟩::l) Q st:=by
 intro w0 im0 cx a w h0 hG r
 refine wpList_step (fun K' hK'=>?_)
 have hw:Region.wanted ⟨dst,.makeSlice t x y,ty,pos,after,none⟩ (yielded ops a.tmps)=true:=rfl
 rw[if_pos hw]
 obtain⟨hu,hs,hk0,i,zv,hi,hz,hsize,hbytes,hzs⟩:=appInfo_ok hai
 have hzl:zs=zv.cells.toList.map leafOf∧zs.all AV.leafy=true:=by
  unfold tzero at hzv
  simp only[hi,hz,Option.bind_some] at hzv
  split at hzv
  ·rename_i hall
   simp only[Option.some.injEq] at hzv
   exact⟨hzv.symm,by rw[←hzv];exact hall⟩
  ·simp at hzv
 have ex:a.eval x= .int kl (m:Int):=by have:=r.ev x;rw[hx] at this;exact this.inv_v
 have ey:a.eval y= .int kc (m:Int):=by have:=r.ev y;rw[hy] at this;exact this.inv_v
 have hsz:m*i.size≤16777216:=by rw[hsize];exact Nat.le_trans (Nat.mul_le_mul hm hk) (by decide)
 have hby:(i.bytes:Int)*(m:Int)≤281474976710656:=by
  rw[hbytes]
  have:n*m≤100000*1000:=Nat.mul_le_mul hn hm
  have h2:((n*m:Nat):Int)≤281474976710656:=by omega
  rwa[Int.natCast_mul] at h2
 have hrun:=run_makeSlice (P:=E.P) (w:=w) t e i zv hu hi hz kl kc (m:Int) (m:Int) (by omega) (Int.le_refl _) (by simpa using hsz) hby (by omega)
 simp only[Int.toNat_natCast] at hrun
 have hlen:zs.length=k:=by rw[hzl.1];simp[hzs]
 have hcells:Cells cx.im k (List.replicate m (.agg zs')) (madeCells zv.cells (m*i.size)).toList:=by
  refine⟨fun j z hj=>?_,fun j z q u hj hq=>?_⟩
  ·rw[List.getElem?_replicate] at hj
   split at hj
   ·simp only[Option.some.injEq] at hj;subst hj;exact hl.trans hlen
   ·simp at hj
  ·rw[List.getElem?_replicate] at hj
   split at hj
   ·rename_i hjm
    simp only[Option.some.injEq] at hj;subst hj
    have hq0:zs'[q]?=some u:=hq
    have hqk:q<k:=by rw[←hlen,←hl];exact lt_of_get hq0
    obtain⟨z,hq1⟩:∃z,zs[q]?=some z:=⟨_,List.getElem?_eq_getElem (by omega)⟩
    have hqz:q<zv.cells.size:=by omega
    have hu1:z=leafOf zv.cells[q]:=by
     rw[hzl.1,List.getElem?_map] at hq1
     simp[hqz] at hq1
     exact hq1.symm
    have hlt:j*k+q<m*i.size:=by rw[hsize];exact idx_lt hjm hqk
    have hmod:(j*k+q)%zv.cells.size=q:=by rw[hzs,Nat.mul_comm,Nat.mul_add_mod,Nat.mod_eq_of_lt hqk]
    refine⟨zv.cells[q],?_,?_⟩
    ·simp only[madeCells,Array.toList_map,List.getElem?_map,Array.toList_range,List.getElem?_range hlt,Option.map_some,hmod]
     simp[hqz]
    ·have hv:VR0 cx.im z zv.cells[q]:=by rw[hu1];exact leafOf_ok _ _
     have hlf:z.leafy=true:=List.all_eq_true.1 hzl.2 z (List.mem_of_getElem? hq1)
     refine⟨?_,VR.leafy (c:=cx) (.base hv) hlf⟩
     rcases hzz q z u hq1 hq0 with rfl|⟨rfl,p,rfl⟩
     ·exact hv
     ·have:=(VR.base (c:=cx) hv).inv_nilS
      rw[this];exact .sl0 p none 0
   ·simp at hj
 obtain⟨c',hle,r2,hv⟩:=r.newTok (below_alloc w (.cells (madeCells zv.cells (m*i.size)) e)) (g:=w.heap.size) (k:=k) (cap:=m) (es:=List.replicate m (.agg zs')) (Nat.le_refl _) (heap_new w _) (.inl rfl)
  (by rw[size_madeCells,hsize];exact Nat.le_refl _) (by simp) hcells
 rw[List.length_replicate] at r2 hv
 refine wp_value (w':=w.alloc (.cells (madeCells zv.cells (m*i.size)) e)) (v:= .slice (some ⟨w.heap.size,0,none⟩) m m) ?_ (hK' _ _ (h w0 im0 _ _ _ h0 hG (r2.put dst hv)))
 simp only[execOp,ex,ey,Sem.run_bind,hrun,Result.andThen_ok,Sem.run_pure]
variable{w0:World}{im0:Base}{c:Ctx}{st:St}{a:Act}{w:World}
end Go.Abs
end
section
namespace Go.Abs
open Go Go.RowKit
theorem OCells.drop{c:Ctx}{k:Nat}{es:List AV}{cs:List Value}(h:OCells c k es cs)(d:Nat):OCells c k (es.drop d) (cs.drop (d*k)):=by
 refine⟨fun i e he=>h.1 (d+i) e (by rwa[List.getElem?_drop] at he),fun i e j x he hx=>?_⟩
 rw[List.getElem?_drop] at he
 obtain⟨v,h1,h2⟩:=h.2 (d+i) e j x he hx
 refine⟨v,?_,h2⟩
 rw[List.getElem?_drop,←h1]
 congr 1
 rw[Nat.add_mul];omega
theorem OCells.takeN{c:Ctx}{k:Nat}{es:List AV}{cs:List Value}(h:OCells c k es cs)(d:Nat)(hd:d≤es.length):OCells c k (es.take d) (cs.take (d*k)):=by
 have h2:OCells c k (es.take d++es.drop d) cs:=by rw[List.take_append_drop];exact h
 have:=h2.take
 rwa[List.length_take,Nat.min_eq_left hd] at this
section
variable{P:Program}{w0:World}{im0:Base}{c:Ctx}{st:St}{a:Act}{w:World}
end
section
variable{E:Env}{Q:Exit→St→Prop}{st:St}{ops:Array Oper}{l:List Oper}
theorem bounds2_run{P:Program}{w:World}{len cap l h:Nat}(h1:l≤h)(h2:h≤cap):(Instr.sliceBounds true len cap (some (.int .i64 (l:Int))) (some (.int .i64 (h:Int))) none).run P w= .ok (l,h,cap) w:=by
 have e2:∀code,(Instr.sliceBound (.int .i64 (h:Int)) cap code).run P w= .ok h w:=fun code=>(bound_run (by omega) (by omega)).trans (by simp)
 have e3:∀code,(Instr.sliceBound (.int .i64 (l:Int)) h code).run P w= .ok l w:=fun code=>(bound_run (by omega) (by omega)).trans (by simp)
 simp[Instr.sliceBounds,Sem.run_bind,e2,e3]
theorem bounds1_run{P:Program}{w:World}{len cap l:Nat}(h1:l≤len):(Instr.sliceBounds true len cap (some (.int .i64 (l:Int))) none none).run P w= .ok (l,len,cap) w:=by
 have e3:∀code,(Instr.sliceBound (.int .i64 (l:Int)) len code).run P w= .ok l w:=fun code=>(bound_run (by omega) (by omega)).trans (by simp)
 simp[Instr.sliceBounds,Sem.run_bind,e3]
theorem AWPL.slice2Mu{dst:Option Tmp}{t ty:TypeId}{x lo hi:Operand}{pos:String}{after:Array Edge}{e:TypeId}{k id off len cap l' h':Nat}
 (hu:E.P.underlying t=some (.slice e)) (hsz:tsz E.P e=some k) (hs:st.ev x= .mu id k off len cap) (hl:st.ev lo=i64 (l':Int)) (hh:st.ev hi=i64 (h':Int)) (h1:l'≤h') (h2:h'≤cap) (h3:l'<cap)
 (h:AWPL E ops l Q (st.put dst (.mu id k (off+l') (h'-l') (cap-l')))):AWPL E ops (⟨dst,.slice t x (some lo) (some hi) none,ty,pos,after,none⟩::l) Q st:=by
 intro w0 im0 cx a w h0' hG r
 refine wpList_step (fun K' hK'=>?_)
 have hw:Region.wanted ⟨dst,.slice t x (some lo) (some hi) none,ty,pos,after,none⟩ (yielded ops a.tmps)=true:=rfl
 rw[if_pos hw]
 have hv:=r.ev x
 rw[hs] at hv
 have e1:a.eval lo= .int .i64 (l':Int):=by have:=r.ev lo;rw[hl] at this;exact this.inv_v
 have e2:a.eval hi= .int .i64 (h':Int):=by have:=r.ev hi;rw[hh] at this;exact this.inv_v
 rcases hv.inv_mu with⟨g,hb,hcap,hve⟩|⟨hz,hz2,_⟩
 rotate_left
 ·omega
 have hrun:(Instr.sliceAt t (a.eval x) (some (a.eval lo)) (some (a.eval hi)) none).run E.P w= .ok (.slice (some ⟨g,(off+l')*k,none⟩) (h'-l') (cap-l')) w:=by
  rw[e1,e2,hve]
  simp only[Instr.sliceAt,Sem.run_bind,underlying_run hu,Result.andThen_ok,Instr.slice,bounds2_run (P:=E.P) (w:=w) h1 h2,tsz_run hsz,Sem.run_pure]
  have hne:¬cap=l':=by omega
  simp[hne,Addr.add,Nat.add_mul]
 refine wp_value (w':=w) (v:= .slice (some ⟨g,(off+l')*k,none⟩) (h'-l') (cap-l')) ?_ (hK' _ _ (h w0 im0 _ _ _ h0' hG (r.put dst (.mu hb (by omega)))))
 simp only[execOp,Option.map_some,Option.map_none,Sem.run_bind,hrun,Result.andThen_ok,Sem.run_pure]
theorem AWPL.sliceMuEnd{dst:Option Tmp}{t ty:TypeId}{x lo:Operand}{pos:String}{after:Array Edge}{e:TypeId}{k id off cap:Nat}
 (hu:E.P.underlying t=some (.slice e)) (hsz:tsz E.P e=some k) (hs:st.ev x= .mu id k off cap cap) (hl:st.ev lo=i64 (cap:Int)) (hc:0<cap)
 (h:AWPL E ops l Q (st.put dst (.mu id k off 0 0))):AWPL E ops (⟨dst,.slice t x (some lo) none none,ty,pos,after,none⟩::l) Q st:=by
 intro w0 im0 cx a w h0' hG r
 refine wpList_step (fun K' hK'=>?_)
 have hw:Region.wanted ⟨dst,.slice t x (some lo) none none,ty,pos,after,none⟩ (yielded ops a.tmps)=true:=rfl
 rw[if_pos hw]
 have hv:=r.ev x
 rw[hs] at hv
 have e1:a.eval lo= .int .i64 (cap:Int):=by have:=r.ev lo;rw[hl] at this;exact this.inv_v
 rcases hv.inv_mu with⟨g,hb,hcap,hve⟩|⟨hz,hz2,_⟩
 rotate_left
 ·omega
 have hrun:(Instr.sliceAt t (a.eval x) (some (a.eval lo)) none none).run E.P w= .ok (.slice (some ⟨g,off*k,none⟩) 0 0) w:=by
  rw[e1,hve]
  simp only[Instr.sliceAt,Sem.run_bind,underlying_run hu,Result.andThen_ok,Instr.slice,bounds1_run (P:=E.P) (w:=w) (Nat.le_refl _),tsz_run hsz,Sem.run_pure]
  simp
 refine wp_value (w':=w) (v:= .slice (some ⟨g,off*k,none⟩) 0 0) ?_ (hK' _ _ (h w0 im0 _ _ _ h0' hG (r.put dst (.mu hb (Nat.le_refl _)))))
 simp only[execOp,Option.map_some,Option.map_none,Sem.run_bind,hrun,Result.andThen_ok,Sem.run_pure]
end
theorem oper_wp_mono2{P:Program}{o:Oper}{a:Act}{w:World}{K K':Act→World→Prop}{Q Q':Exit→Act→World→Prop}(h:∀a w,K a w→K' a w)(hp:∀c a w,Q (.panic c) a w→Q' (.panic c) a w)(hl:LetsOut Q→LetsOut Q')
 (hh:o.wp P a w K Q):o.wp P a w K' Q':=by
 unfold Oper.wp at *
 generalize (execOp a.eval o).run P w=r at *
 cases r with
 |ok n w'=>
  cases n<;>simp only[Oper.upon] at hh ⊢ <;>
   first
    |exact h _ _ hh
    |exact Calls.mono hh (fun e w'' he=>by cases e<;>first|exact h _ _ he|exact hp _ _ _ he|exact hl he)
    |exact Rows.mono hh (fun _ _ he=>h _ _ he)
 |halt x w'=>cases x<;>simp only[Oper.upon] at hh ⊢ <;>first|exact hp _ _ _ hh|exact hh
def FOp(E:Env)(ops:Array Oper)(o:Oper)(s s':St):Prop:=∀Q:Exit→St→Prop,Q .normal s'→AWPL E ops [o] Q s
theorem FOp.list{E:Env}{ops:Array Oper}{o:Oper}{s s':St}(h:AList E ops [o] s fun z=>z=s'):FOp E ops o s s':=fun Q hQ=>by
 obtain⟨q,hq,h1,h2⟩:=h
 refine AWPL.of ⟨q,hq,fun e=>aop_mono (h1 e) fun z hz=>?_,fun e=>?_⟩
 ·have hz:z=s':=hz
  subst hz;exact hQ
 ·have hz:s.put o.dst (.v undef)=s':=h2 e
  show Q .normal _
  rw[hz];exact hQ
theorem FOp.call{E:Env}{ops:Array Oper}{o:Oper}{s s':St}(h:∀Q:Exit→St→Prop,AWPL E ops [] Q s'→AWPL E ops [o] Q s):FOp E ops o s s':=fun Q hQ=>h Q (AWPL.of hQ)
def lookI:List (Option Tmp)→Nat→Tmp→Option Nat
 |[],_,_=>none
 |d::r,i,t=>if d=some t then some i else lookI r (i+1) t
def flowX(ds:List (Option Tmp))(vals:List AV)(L:Nat→Bool)(t:Nat)(x:AV):AV:=match lookI ds 0 t with|some i=>if L i then vals.getD i .any else x|none=>x
def expF(ds:List (Option Tmp))(vals:List AV)(anc:List (List Nat))(i:Nat)(st:St)(t:Tmp):AV:=match lookI ds 0 t with|some j=>if(anc.getD i []).contains j then vals.getD j .any else st.tmps.getD t .any|none=>st.tmps.getD t .any
def updL(L:Nat→Bool)(i:Nat):Nat→Bool:=fun j=>if j=i then true else L j
def flowS(ds:List (Option Tmp))(vals:List AV)(cs:List Nat)(ow:Nat→List (Option (List AV)))(st:St)(L:Nat→Bool):St:={ st with tmps:=st.tmps.mapIdx (flowX ds vals L),own:=ow (cs.countP L) }
def dstsOf(ops:Array Oper):List (Option Tmp):=ops.toList.map (·.dst)
def flowOK(ops:Array Oper)(anc:List (List Nat))(cs:List Nat):Bool:=
 listedOK ops anc&&(List.range ops.size).all (fun i=>match ops[i]? with
  |none=>false
  |some o=>o.dst.isSome&&(match o.dst with|some d=>lookI (dstsOf ops) 0 d==some i|none=>true)&&o.after.toList.all (fun e=>!Region.binds .any e||decide (e.on<i)) &&
   (Oper.looksAt ops o).all (fun t=>match lookI (dstsOf ops) 0 t with|some j=>(anc.getD i []).contains j||(anc.getD j []).contains i|none=>true)) &&
 (List.range cs.length).all (fun k=>(List.range k).all fun j=>(anc.getD (cs.getD k 0) []).contains (cs.getD j 0))&&decide cs.Nodup&&cs.all (fun i=>decide (i<ops.size))
section
variable{E:Env}{ops:Array Oper}{anc:List (List Nat)}{cs:List Nat}{ow:Nat→List (Option (List AV))}{vals:List AV}{st:St}
theorem flow_read{L:Nat→Bool}{t:Tmp}{i:Nat}(h:∀j,lookI (dstsOf ops) 0 t=some j→L j=(anc.getD i []).contains j):(flowS (dstsOf ops) vals cs ow st L).tmps.getD t .any=if t<st.tmps.length then expF (dstsOf ops) vals anc i st t else .any:=by
 simp only[flowS,List.getD_eq_getElem?_getD,List.getElem?_mapIdx]
 by_cases ht:t<st.tmps.length
 ·rw[if_pos ht,List.getElem?_eq_getElem ht]
  simp only[Option.map_some,Option.getD_some,flowX,expF]
  cases hl:lookI (dstsOf ops) 0 t with
  |none=>simp[List.getD_eq_getElem?_getD,List.getElem?_eq_getElem ht]
  |some j=>
   simp only[h j hl]
   split<;>simp_all[List.getD_eq_getElem?_getD,List.getElem?_eq_getElem ht]
 ·rw[if_neg ht,List.getElem?_eq_none (Nat.le_of_not_lt ht)]
  rfl
theorem count_upd{L:Nat→Bool}{i:Nat}(h:i∉cs):cs.countP (updL L i)=cs.countP L:=by
 apply List.countP_congr
 intro j hj
 have:j≠i:=fun e=>h (e ▸ hj)
 simp[updL,this]
theorem flow_put{L:Nat→Bool}{i:Nat}{d:Tmp}(h:lookI (dstsOf ops) 0 d=some i):(st.tmps.mapIdx (flowX (dstsOf ops) vals L)).set d (vals.getD i .any)=st.tmps.mapIdx (flowX (dstsOf ops) vals (updL L i))∨¬(∀t,lookI (dstsOf ops) 0 t=some i→t=d):=by
 by_cases hu:∀t,lookI (dstsOf ops) 0 t=some i→t=d
 ·left
  apply List.ext_getElem?
  intro t
  rw[List.getElem?_set]
  simp only[List.getElem?_mapIdx,List.length_mapIdx]
  by_cases htd:d=t
  ·subst htd
   rw[if_pos rfl]
   by_cases hd:d<st.tmps.length
   ·simp[hd,flowX,h,updL]
   ·simp[hd]
  ·rw[if_neg htd]
   cases hx:st.tmps[t]? with
   |none=>rfl
   |some x=>
    simp only[Option.map_some,Option.some.injEq,flowX]
    cases hl:lookI (dstsOf ops) 0 t with
    |none=>rfl
    |some j=>
     have:j≠i:=fun e=>htd (hu t (e ▸ hl)).symm
     simp[updL,this]
 ·exact .inr hu
theorem lookI_get:∀{ds:List (Option Tmp)} {k t i:Nat},lookI ds k t=some i→∃j,i=k+j∧ds[j]?=some (some t)
 |[],_,_,_,h=>by simp[lookI] at h
 |d::r,k,t,i,h=>by
  unfold lookI at h
  split at h
  ·rename_i e
   simp only[Option.some.injEq] at h
   exact⟨0,by omega,by simp[e]⟩
  ·obtain⟨j,e1,e2⟩:=lookI_get h
   exact⟨j+1,by omega,by simpa using e2⟩
theorem lookI_lt{ds:List (Option Tmp)}{t i:Nat}(h:lookI ds 0 t=some i):i<ds.length:=by
 obtain⟨j,e1,e2⟩:=lookI_get h
 have:=(List.getElem?_eq_some_iff.1 e2).1
 omega
theorem flow_all{L:Nat→Bool}(hl:(dstsOf ops).length=vals.length){p:AV→Bool}(h1:st.tmps.all p=true)(h2:vals.all p=true):(flowS (dstsOf ops) vals cs ow st L).tmps.all p=true:=by
 rw[List.all_eq_true] at *
 intro x hx
 obtain⟨t,ht⟩:=List.mem_iff_getElem?.1 hx
 simp only[flowS,List.getElem?_mapIdx] at ht
 cases hy:st.tmps[t]? with
 |none=>rw[hy] at ht;simp at ht
 |some y=>
  rw[hy] at ht
  simp only[Option.map_some,Option.some.injEq] at ht
  have hy2:=h1 y (List.mem_of_getElem? hy)
  rw[←ht]
  unfold flowX
  cases hk:lookI (dstsOf ops) 0 t with
  |none=>exact hy2
  |some i=>
   simp only[]
   split
   ·have hi:i<vals.length:=by rw[←hl];exact lookI_lt hk
    have:vals.getD i .any∈vals:=List.mem_iff_getElem?.2 ⟨i,by simp[List.getD_eq_getElem?_getD,List.getElem?_eq_getElem hi]⟩
    exact h2 _ this
   ·exact hy2
theorem flow_sound{w0:World}{im0:Base}(h0:E.ok w0)(hG:GOB E im0){Q:Exit→St→Prop}(hv:listedOK ops anc=true)
 (hlt:∀(i:Nat) (o:Oper),ops[i]?=some o→∀e∈o.after,Region.binds .any e=true→e.on<i)
 (hstep:∀(i:Nat) (o:Oper),ops[i]?=some o→∀L:Nat→Bool,L i=false→(∀p∈anc.getD i [],L p=true)→(∀m,L m=true→∀p∈anc.getD m [],L p=true)→FOp E ops o (flowS (dstsOf ops) vals cs ow st L) (flowS (dstsOf ops) vals cs ow st (updL L i)))
 (hQ:∀L:Nat→Bool,(∀i,i<ops.size→L i=true)→Q .normal (flowS (dstsOf ops) vals cs ow st L)):
 ∀(n:Nat) (L:Array Bool) (c:Ctx) (a:Act) (w:World),L.size=ops.size→L.toList.count false=n→WfL anc L→Rel w0 im0 c (flowS (dstsOf ops) vals cs ow st fun j=>L.getD j false) a w→
  wpAny E.P .any ops (fun e a w=>Hands w0 im0 (Q e) a w) n L a w:=by
 have hall:∀L:Array Bool,L.size=ops.size→Region.ready .any ops L=[]→∀i,i<ops.size→L.getD i false=true:=by
  intro L hs hr i
  induction i using Nat.strongRecOn with
  |ind i ih=>
   intro hi
   cases hb:L.getD i false with
   |true=>rfl
   |false=>
    exfalso
    have:i∈Region.ready .any ops L:=by
     rw[mem_ready]
     refine⟨?_,ops[i],by simp[hi],fun e he hbd=>?_⟩
     ·have hi':i<L.size:=by omega
      simpa[Array.getD,hi'] using hb
     ·have:=hlt i ops[i] (by simp[hi]) e he hbd
      exact ih e.on this (by omega)
    rw[hr] at this;simp at this
 have hset:∀(L:Array Bool) (i:Nat),i<L.size→(fun j=>(L.setIfInBounds i true).getD j false)=updL (fun j=>L.getD j false) i:=by
  intro L i hi
  funext j
  simp only[updL,Array.getD_eq_getD_getElem?,Array.getElem?_setIfInBounds]
  by_cases hj:j=i
  ·subst hj;simp[hi]
  ·rw[if_neg (fun e=>hj e.symm),if_neg hj]
 intro n
 induction n with
 |zero=>
  intro L c a w hs hc hw r
  have hno:∀i,i<ops.size→L.getD i false=true:=by
   intro i hi
   have hi':i<L.size:=by omega
   have:=List.count_eq_zero.1 hc
   cases hb:L[i] with
   |true=>simp[Array.getD,hi',hb]
   |false=>exact absurd (List.mem_iff_getElem.2 ⟨i,by simpa using hi',by simpa using hb⟩) this
  refine⟨?_,⟨c,_,r,hQ _ hno⟩⟩
  cases hr:Region.ready .any ops L with
  |nil=>rfl
  |cons i rest=>
   exfalso
   have hi:i∈Region.ready .any ops L:=by rw[hr];exact List.mem_cons_self ..
   obtain⟨h1,o,ho,_⟩:=mem_ready.1 hi
   have hio:i<ops.size:=(Array.getElem?_eq_some_iff.1 ho).1
   have:=hno i hio
   have hi':i<L.size:=by omega
   simp only[Array.getD,hi',dite_true] at h1 this
   rw[h1] at this;simp at this
 |succ n ih=>
  intro L c a w hs hc hw r
  refine⟨fun hr=>⟨c,_,r,hQ _ (hall L hs hr)⟩,fun i hi=>?_⟩
  obtain⟨h1,o,ho,hedge⟩:=mem_ready.1 hi
  have hio:i<ops.size:=(Array.getElem?_eq_some_iff.1 ho).1
  have hi':i<L.size:=by omega
  have hLi:L.getD i false=false:=by simpa[Array.getD,hi'] using h1
  have hf:=hstep i o ho (fun j=>L.getD j false) hLi (anc_listed hv hw hi) hw
  have hL2:=hset L i hi'
  rw[←hL2] at hf
  have hcount:(L.setIfInBounds i true).toList.count false=n:=by
   have hget:L.toList[i]'(by simpa using hi')=false:=by
    have:L[i]=false:=by simpa[Array.getD,hi'] using h1
    simpa using this
   rw[Array.toList_setIfInBounds,List.count_set (h:=by simpa using hi'),hc,hget]
   simp
  unfold wpOp
  rw[ho]
  simp only[]
  have hh:=hf (fun e z=>match e with|.normal=>z=flowS (dstsOf ops) vals cs ow st (fun j=>(L.setIfInBounds i true).getD j false)|e=>Q e z) rfl w0 im0 c a w h0 hG r
  unfold wpList at hh
  have next:∀a' w',Hands w0 im0 (fun z=>z=flowS (dstsOf ops) vals cs ow st (fun j=>(L.setIfInBounds i true).getD j false)) a' w'→wpAny E.P .any ops (fun e a w=>Hands w0 im0 (Q e) a w) n (L.setIfInBounds i true) a' w':=by
   rintro a' w' ⟨c',s,r',rfl⟩
   exact ih _ c' a' w' (by simpa using hs) hcount (hw.add hv hi) r'
  split at hh
  ·rename_i hwant
   rw[if_pos hwant]
   rcases hh with hh|⟨hh1,a',w',hh2⟩
   ·refine .inl (oper_wp_mono2 (fun a' w' hz=>next a' w' ?_) (fun _ _ _ h=>h) (fun⟨a',w',h⟩=>⟨a',w',h⟩) hh)
    exact hz
   ·exact .inr ⟨hh1,a',w',hh2⟩
  ·rename_i hwant
   rw[if_neg hwant]
   exact next _ _ hh
def setAll:List (Option Tmp)→List AV→List AV→List AV
 |some d::ds,v::vs,ts=>setAll ds vs (ts.set d v)
 |none::ds,_::vs,ts=>setAll ds vs ts
 |_,_,ts=>ts
theorem lookI_shift:∀(ds:List (Option Tmp)) (k t:Nat),lookI ds (k+1) t=(lookI ds k t).map (· +1)
 |[],_,_=>rfl
 |d::r,k,t=>by
  unfold lookI
  split
  ·rfl
  ·exact lookI_shift r (k+1) t
theorem lookI_mem:∀{ds:List (Option Tmp)} {k t:Nat},some t∉ds→lookI ds k t=none
 |[],_,_,_=>rfl
 |d::r,k,t,h=>by
  simp only[List.mem_cons,not_or] at h
  unfold lookI
  rw[if_neg (fun e=>h.1 e.symm)]
  exact lookI_mem h.2
theorem setAll_get:∀(ds:List (Option Tmp)) (vs ts:List AV) (t:Nat),ds.length=vs.length→(∀d,some d∈ds→ds.count (some d)≤1)→(setAll ds vs ts)[t]?=(ts[t]?).map fun x=>flowX ds vs (fun _=>true) t x
 |[],vs,ts,t,hl,hn=>by
  cases h:ts[t]?<;>simp[setAll,flowX,lookI,h]
 |d::ds,[],ts,t,hl,hn=>by simp at hl
 |none::ds,v::vs,ts,t,hl,hn=>by
  have ih:=setAll_get ds vs ts t (by simpa using hl) (fun d hd=>by have:=hn d (List.mem_cons_of_mem _ hd);simpa[List.count_cons] using this)
  show(setAll ds vs ts)[t]?=_
  rw[ih]
  congr 1
  funext x
  have e:lookI (none::ds) 0 t=(lookI ds 0 t).map (· +1):=by
   show(if none=some t then _ else lookI ds (0+1) t)=_
   rw[if_neg (by simp),lookI_shift]
  unfold flowX
  rw[e]
  cases lookI ds 0 t<;>simp
 |some d::ds,v::vs,ts,t,hl,hn=>by
  have hnd:some d∉ds:=by
   have:=hn d (List.mem_cons_self ..)
   rw[List.count_cons_self] at this
   exact List.count_eq_zero.1 (by omega)
  have ih:=setAll_get ds vs (ts.set d v) t (by simpa using hl) (fun d' hd=>by
   have:=hn d' (List.mem_cons_of_mem _ hd)
   rw[List.count_cons] at this;omega)
  show(setAll ds vs (ts.set d v))[t]?=_
  rw[ih,List.getElem?_set]
  by_cases htd:d=t
  ·subst htd
   have e:lookI (some d::ds) 0 d=some 0:=by
    show(if some d=some d then _ else _)=_
    rw[if_pos rfl]
   by_cases hd:d<ts.length
   ·simp[hd,flowX,e,lookI_mem hnd]
   ·simp[hd]
  ·have e:lookI (some d::ds) 0 t=(lookI ds 0 t).map (· +1):=by
    show(if some d=some t then _ else lookI ds (0+1) t)=_
    rw[if_neg (by simpa using htd),lookI_shift]
   rw[if_neg htd]
   congr 1
   funext x
   unfold flowX
   rw[e]
   cases lookI ds 0 t<;>simp
theorem AWP.regionFlow{id:Nat}{Q:Exit→St→Prop}(anc:List (List Nat))(vals:List AV)(cs:List Nat)(ow:Nat→List (Option (List AV)))(hm:E.P.follows .mixedOrders=true)(hk:flowOK ops anc cs=true)(hvl:(dstsOf ops).length=vals.length)
 (hown:st.own=ow 0) (hrsv:st.rsv=none)
 (hp:∀(i:Nat) (o:Oper),ops[i]?=some o→i∉cs→∀s:St,s.gl=st.gl→(∃k,s.own=ow k)→s.tk=st.tk→s.rsv=none→(∀t∈Oper.looksAt ops o,s.tmps.getD t .any=if t<st.tmps.length then expF (dstsOf ops) vals anc i st t else .any)→FOp E ops o s (s.put o.dst (vals.getD i .any)))
 (hc:∀(k i:Nat) (o:Oper),cs[k]?=some i→ops[i]?=some o→∀s:St,s.gl=st.gl→s.own=ow k→s.tk=st.tk→s.rsv=none→s.up=st.up→(∀p:AV→Bool,st.tmps.all p=true→vals.all p=true→s.tmps.all p=true)→(∀t∈Oper.looksAt ops o,s.tmps.getD t .any=if t<st.tmps.length then expF (dstsOf ops) vals anc i st t else .any)→FOp E ops o s (St.put { s with own:=ow (k+1) } o.dst (vals.getD i .any)))
 (h:Q .normal { st with tmps:=setAll (dstsOf ops) vals st.tmps,own:=ow cs.length }):AWP E (.region id ops true) Q st:=fun w0 im0 cx a w h0 hG r=>by
 have r':Rel w0 im0 cx st a w.drew:=⟨r.defers,r.size,r.tmps,r.below.drew,r.imle,r.imold,r.imok,r.ownlen,fun i g k es h1 h2=>let h3:=r.own i g k es h1 h2;⟨h3.new,h3.im,h3.blk⟩,r.tklen,r.tail,fun t T b h1 h2=>let h3:=r.tok t T b h1 h2;⟨h3.new,h3.room,h3.im,h3.blk⟩,r.apart,r.glob,r.up,r.hole⟩
 simp only[flowOK,Bool.and_eq_true,List.all_eq_true,List.mem_range,decide_eq_true_eq] at hk
 obtain⟨⟨⟨⟨hv,hops⟩,hchain⟩,hnd⟩,hrange⟩:=hk
 have hop:∀(i:Nat) (o:Oper),ops[i]?=some o→∃d,o.dst=some d∧lookI (dstsOf ops) 0 d=some i∧(∀e∈o.after,Region.binds .any e=true→e.on<i)∧∀t∈Oper.looksAt ops o,∀j,lookI (dstsOf ops) 0 t=some j→j∈anc.getD i []∨i∈anc.getD j []:=by
  intro i o ho
  have hi:i<ops.size:=(Array.getElem?_eq_some_iff.1 ho).1
  have hh:=hops i hi
  rw[ho] at hh
  simp only[Bool.and_eq_true] at hh
  obtain⟨⟨⟨h1,h2⟩,h3⟩,h4⟩:=hh
  obtain⟨d,hd⟩:=Option.isSome_iff_exists.1 h1
  rw[hd] at h2
  refine⟨d,hd,by simpa using h2,fun e he hb=>?_,fun t ht j hj=>?_⟩
  ·have:=List.all_eq_true.1 h3 e (by simpa using he)
   rw[hb] at this;simpa using this
  ·have:=List.all_eq_true.1 h4 t ht
   rw[hj] at this;simpa using this
 have hdst:∀(t i:Nat),lookI (dstsOf ops) 0 t=some i→∃o,ops[i]?=some o∧o.dst=some t:=by
  intro t i hl
  obtain⟨j,e1,e2⟩:=lookI_get hl
  have:i=j:=by omega
  subst this
  unfold dstsOf at e2
  rw[List.getElem?_map] at e2
  cases ho:ops.toList[i]? with
  |none=>rw[ho] at e2;simp at e2
  |some o=>
   rw[ho] at e2
   exact⟨o,by simpa using ho,by simpa using e2⟩
 have huniq:∀(t d i:Nat) (o:Oper),ops[i]?=some o→o.dst=some d→lookI (dstsOf ops) 0 t=some i→t=d:=by
  intro t d i o ho hd hl
  obtain⟨o',ho',hd'⟩:=hdst t i hl
  rw[ho] at ho'
  have:o=o':=Option.some.inj ho'
  subst this
  rw[hd] at hd'
  exact(Option.some.inj hd').symm
 have hzero:flowS (dstsOf ops) vals cs ow st (fun j=>(Array.replicate ops.size false).getD j false)=st:=by
  have hf:(fun j=>(Array.replicate ops.size false).getD j false)=fun _=>false:=by
   funext j
   by_cases hj:j<ops.size<;>simp[Array.getD,hj]
  rw[hf]
  unfold flowS
  have e1:st.tmps.mapIdx (flowX (dstsOf ops) vals fun _=>false)=st.tmps:=by
   apply List.ext_getElem?
   intro t
   rw[List.getElem?_mapIdx]
   cases st.tmps[t]? with
   |none=>rfl
   |some x=>
    simp only[Option.map_some,Option.some.injEq,flowX]
    cases lookI (dstsOf ops) 0 t<;>simp
  have e2:cs.countP (fun _=>false)=0:=by rw[List.countP_eq_zero];simp
  rw[e1,e2,←hown]
 refine wp_region_any hm (flow_sound (ops:=ops) (anc:=anc) (cs:=cs) (ow:=ow) (vals:=vals) (st:=st) h0 hG hv (fun i o ho e he hb=>(hop i o ho).choose_spec.2.2.1 e he hb) ?_ ?_ ops.size _ cx a _ (by simp) (by simp) (by intro m hm;by_cases hj:m<ops.size<;>simp[Array.getD,hj] at hm) ?_)
 ·intro i o ho L hLi hanc hcl
  obtain⟨d,hd,hlk,_,hlooks⟩:=hop i o ho
  have hread:∀t∈Oper.looksAt ops o,(flowS (dstsOf ops) vals cs ow st L).tmps.getD t .any=if t<st.tmps.length then expF (dstsOf ops) vals anc i st t else .any:=fun t ht=>flow_read fun j hj=>by
   by_cases hc:j∈anc.getD i []
   ·rw[hanc j hc];symm;simpa using hc
   ·have h2:=(hlooks t ht j hj).resolve_left hc
    have h3:L j=false:=by
     cases hb:L j with
     |false=>rfl
     |true=>have:=hcl j hb i h2;rw[hLi] at this;simp at this
    rw[h3];symm;simpa using hc
  have hput:=(flow_put (st:=st) (vals:=vals) (L:=L) hlk).resolve_right (fun hn=>hn fun t ht=>huniq t d i o ho hd ht)
  by_cases hic:i∈cs
  ·obtain⟨k,hk⟩:=List.mem_iff_getElem?.1 hic
   have hklt:=(List.getElem?_eq_some_iff.1 hk).1
   have hbefore:∀j,j<k→L (cs.getD j 0)=true:=fun j hj=>hanc _ (by
    have:=hchain k hklt j hj
    rw[show cs.getD k 0=i by simp[List.getD_eq_getElem?_getD,hk]] at this
    simpa using this)
   have hbehind:∀j,k<j→j<cs.length→L (cs.getD j 0)=false:=fun j hj hj2=>by
    cases hb:L (cs.getD j 0) with
    |false=>rfl
    |true=>
     have:=hcl _ hb i (by
      have:=hchain j hj2 k hj
      rw[show cs.getD k 0=i by simp[List.getD_eq_getElem?_getD,hk]] at this
      simpa using this)
     rw[hLi] at this;simp at this
   have hcnt:∀M:Nat→Bool,(∀j,j<k→M (cs.getD j 0)=true)→(∀j,k<j→j<cs.length→M (cs.getD j 0)=false)→cs.countP M=k+(if M i then 1 else 0):=by
    intro M h1 h2
    have hsplit:cs=cs.take k++i::cs.drop (k+1):=by
     have hd:=List.drop_eq_getElem_cons hklt
     rw[(List.getElem?_eq_some_iff.1 hk).2] at hd
     rw[←hd,List.take_append_drop]
    rw[hsplit,List.countP_append,List.countP_cons]
    have e1:(cs.take k).countP M=k:=by
     have:(cs.take k).countP M=(cs.take k).length:=List.countP_eq_length.2 fun x hx=>by
      obtain⟨j,hj⟩:=List.mem_iff_getElem?.1 hx
      rw[List.getElem?_take] at hj
      split at hj
      ·rename_i hjk
       have:=h1 j hjk
       rwa[show cs.getD j 0=x by simp[List.getD_eq_getElem?_getD,hj]] at this
      ·simp at hj
     rw[this,List.length_take];omega
    have e2:(cs.drop (k+1)).countP M=0:=List.countP_eq_zero.2 fun x hx=>by
     obtain⟨j,hj⟩:=List.mem_iff_getElem?.1 hx
     rw[List.getElem?_drop] at hj
     have hj2:k+1+j<cs.length:=(List.getElem?_eq_some_iff.1 hj).1
     have:=h2 (k+1+j) (by omega) hj2
     rw[show cs.getD (k+1+j) 0=x by simp[List.getD_eq_getElem?_getD,hj]] at this
     simp[this]
    rw[e1,e2];simp
   have c1:cs.countP L=k:=by rw[hcnt L hbefore hbehind,hLi];simp
   have hne:∀j,j≠k→j<cs.length→cs.getD j 0≠i:=fun j hj hj2 e=>hj (by
    have h3:cs[j]?=cs[k]?:=by
     rw[hk,←e,List.getElem?_eq_getElem hj2];simp[List.getD_eq_getElem?_getD,List.getElem?_eq_getElem hj2]
    exact((List.getElem?_inj hj2 hnd).1 h3))
   have c2:cs.countP (updL L i)=k+1:=by
    rw[hcnt (updL L i) (fun j hj=>by show(if _ then true else _)=true;rw[hbefore j hj];simp) (fun j hj hj2=>by show(if _ then true else _)=false;rw[if_neg (hne j (by omega) hj2),hbehind j hj hj2])]
    simp[updL]
   have:=hc k i o hk ho (flowS (dstsOf ops) vals cs ow st L) rfl (by simp[flowS,c1]) rfl hrsv rfl (fun p h1 h2=>flow_all hvl h1 h2) hread
   rw[hd] at this
   have e:St.put { flowS (dstsOf ops) vals cs ow st L with own:=ow (k+1) } (some d) (vals.getD i .any)=flowS (dstsOf ops) vals cs ow st (updL L i):=by
    simp only[St.put,flowS]
    rw[hput,c2]
   rw[←e]
   exact this
  ·have:=hp i o ho hic (flowS (dstsOf ops) vals cs ow st L) rfl ⟨_,rfl⟩ rfl hrsv hread
   rw[hd] at this
   have e:St.put (flowS (dstsOf ops) vals cs ow st L) (some d) (vals.getD i .any)=flowS (dstsOf ops) vals cs ow st (updL L i):=by
    simp only[St.put,flowS]
    rw[hput,count_upd hic]
   rw[←e]
   exact this
 ·intro L hL
  have e:flowS (dstsOf ops) vals cs ow st L={ st with tmps:=setAll (dstsOf ops) vals st.tmps,own:=ow cs.length }:=by
   unfold flowS
   have e1:st.tmps.mapIdx (flowX (dstsOf ops) vals L)=setAll (dstsOf ops) vals st.tmps:=by
    apply List.ext_getElem?
    intro t
    rw[setAll_get _ _ _ _ hvl,List.getElem?_mapIdx]
    ·congr 1
     funext x
     unfold flowX
     cases hl:lookI (dstsOf ops) 0 t with
     |none=>rfl
     |some i=>
      obtain⟨o,ho,_⟩:=hdst t i hl
      simp[hL i (Array.getElem?_eq_some_iff.1 ho).1]
    ·intro d hd
     rcases Nat.lt_or_ge 1 ((dstsOf ops).count (some d)) with hcc|hcc
     ·exfalso
      have hidx:∀i o,ops[i]?=some o→o.dst=some d→lookI (dstsOf ops) 0 d=some i:=fun i o ho hd'=>by
       obtain⟨d2,e2,e3,_⟩:=hop i o ho
       rw[hd'] at e2
       rw[Option.some.inj e2];exact e3
      have hdup:∃i j:Nat,i<j∧(dstsOf ops)[i]?=some (some d)∧(dstsOf ops)[j]?=some (some d):=by
       have key:∀l:List (Option Tmp),1<l.count (some d)→∃i j:Nat,i<j∧l[i]?=some (some d)∧l[j]?=some (some d):=by
        intro l
        induction l with
        |nil=>intro h;simp at h
        |cons y l ih=>
         intro h
         rw[List.count_cons] at h
         by_cases hy:y=some d
         ·subst hy
          simp only[beq_self_eq_true,if_true] at h
          have hm:some d∈l:=List.count_pos_iff.1 (by omega)
          obtain⟨j,hj⟩:=List.mem_iff_getElem?.1 hm
          exact⟨0,j+1,by omega,rfl,by simpa using hj⟩
         ·have:l.count (some d)>1:=by
           have hb:(y==some d)=false:=by simpa using hy
           rw[hb] at h;simpa using h
          obtain⟨i,j,hij,h1,h2⟩:=ih this
          exact⟨i+1,j+1,by omega,by simpa using h1,by simpa using h2⟩
       exact key _ hcc
      obtain⟨i,j,hij,h1,h2⟩:=hdup
      have get:∀k:Nat,(dstsOf ops)[k]?=some (some d)→lookI (dstsOf ops) 0 d=some k:=fun k hk=>by
       unfold dstsOf at hk
       rw[List.getElem?_map] at hk
       cases ho:ops.toList[k]? with
       |none=>rw[ho] at hk;simp at hk
       |some o=>
        rw[ho] at hk
        exact hidx k o (by simpa using ho) (by simpa using hk)
      have e1:=get i h1
      have e2:=get j h2
      rw[e1] at e2
      have:=Option.some.inj e2
      omega
     ·exact hcc
   have e2:cs.countP L=cs.length:=List.countP_eq_length.2 fun x hx=>by
    obtain⟨k,hk⟩:=List.mem_iff_getElem?.1 hx
    exact hL x (hrange x hx)
   rw[e1,e2]
  rw[e];exact h
 ·rw[hzero];exact r'
end
section
variable{E:Env}{Q:Exit→St→Prop}{st:St}{ops:Array Oper}{l:List Oper}
end
theorem wkO_self{no nt:Nat}:∀{own:List (Option (List AV))},(∀es,some es∈own→∀e∈es,∀z∈e.leaves,z.bel no nt=true)→WkO no nt own own
 |[],_=>trivial
 |x::xs,h=>⟨.inr ⟨rfl,fun es e=>h es (by rw[e];exact List.mem_cons_self ..)⟩,wkO_self fun es hes=>h es (List.mem_cons_of_mem _ hes)⟩
theorem wkK_self:∀{tk:List Nat},WkK tk tk
 |[]=>trivial
 |_::_=>⟨rfl,wkK_self⟩
theorem Rel.drewW{w0:World}{im0:Base}{c:Ctx}{st:St}{a:Act}{w:World}(r:Rel w0 im0 c st a w):Rel w0 im0 c st a w.drew:=
 ⟨r.defers,r.size,r.tmps,r.below.drew,r.imle,r.imold,r.imok,r.ownlen,fun i g k es h1 h2=>let h3:=r.own i g k es h1 h2;⟨h3.new,h3.im,h3.blk⟩,r.tklen,r.tail,fun t T b h1 h2=>let h3:=r.tok t T b h1 h2;⟨h3.new,h3.room,h3.im,h3.blk⟩,r.apart,r.glob,r.up,r.hole⟩
section
variable{E:Env}{ops:Array Oper}{anc:List (List Nat)}{cs:List Nat}{ow:Nat→List (Option (List AV))}{vals:List AV}{st:St}
end
theorem calls_of_awp{E:Env}{g:FuncId}{fn:Func}{body:Code}{rs:List ResultVar}{st:St}{w0:World}{im0:Base}{cx:Ctx}{a:Act}{w:World}{ys:List AV}{vs:List Value}{K:St→AV→Prop}
 (h0:E.ok w0) (hG:GOB E im0) (r:Rel w0 im0 cx st a w) (hf:E.P.funcs[g]?=some fn) (hb:fn.body=some body) (hr:fn.results.toList=rs) (hrsv:st.rsv=none) (hargs:Pw cx ys vs)
 (h:AWP E body (AInPost E.P rs st K) { st with tmps:=ys++List.replicate (fn.ntmps-ys.length) (.v undef),up:=st.tmps++st.up }):
 Calls E.P g vs.toArray w fun e w'=>∃v,e= .returned v∧∃cx' s z,Rel w0 im0 cx' s a w'∧VR cx' z v∧K s z:=by
 subst hr
 have hrel:Rel w0 ⟨im0.im,a.tmps.toList++im0.ex,im0.dr⟩ cx { st with tmps:=ys++List.replicate (fn.ntmps-ys.length) (.v undef),up:=st.tmps++st.up } { tmps:=vs.toArray++Array.replicate (fn.ntmps-vs.toArray.size) undef,defers:=[] } w:=by
  refine⟨⟨rfl,r.defers.2⟩,by simp[hargs.1],?_,r.below,r.imle,r.imold,r.imok,r.ownlen,r.own,r.tklen,r.tail,r.tok,r.apart,r.glob,⟨?_,?_⟩,r.hole⟩
  ·intro i x v h1 h2
   rcases getElem?_app _ _ _ _ h1 with⟨l1,h1⟩|⟨l1,h1⟩
   ·have:i<vs.length:=by rw[hargs.1];exact l1
    rw[Array.getElem?_append_left (by simpa using this)] at h2
    exact hargs.2 i x v h1 (by simpa using h2)
   ·have hlen:vs.length=ys.length:=hargs.1
    rw[Array.getElem?_append_right (by simp;omega)] at h2
    have e1:x= .v undef:=by
     have:=List.mem_of_getElem? h1
     simp only[List.mem_replicate] at this
     exact this.2
    have e2:v=undef:=by
     have:=Array.mem_of_getElem? h2
     simp only[Array.mem_replicate] at this
     exact this.2
    subst e1;subst e2
    exact .base (.v _)
  ·show(a.tmps.toList++im0.ex).length=(st.tmps++st.up).length
   rw[List.length_append,List.length_append,r.up.1,Array.length_toList,r.size]
  ·intro i x v h1 h2
   have h1:(st.tmps++st.up)[i]?=some x:=h1
   have h2:(a.tmps.toList++im0.ex)[i]?=some v:=h2
   rcases getElem?_app _ _ _ _ h1 with⟨l1,h1⟩|⟨l1,h1⟩
   ·rw[List.getElem?_append_left (by rw[Array.length_toList,r.size];exact l1)] at h2
    exact r.tmps i x v h1 (by simpa using h2)
   ·rw[List.getElem?_append_right (by rw[Array.length_toList,r.size];exact l1),Array.length_toList,r.size] at h2
    exact r.up.2 _ x v h1 h2
 have hsz:vs.toArray.size=vs.length:=by simp
 refine calls_of_wp hf hb ?_
 ·refine wp_mono (h w0 ⟨im0.im,a.tmps.toList++im0.ex,im0.dr⟩ _ _ w h0 hG hrel) fun e a' w' hh=>?_
  obtain⟨c',st',r',q⟩:=hh
  have fin:(st'.up=st.tmps++st.up∧ARes E.P st' fn.results.toList fun l'=>K { st' with tmps:=st.tmps,up:=st.up } (tupOf l'))→
   a'.defers=[]∧∃v,(results fn a'.tmps).run E.P w'= .ok v w'∧(∃v',Ending.returned v= .returned v'∧∃cx' s z,Rel w0 im0 cx' s a w'∧VR cx' z v'∧K s z):=by
   rintro⟨hup,q⟩
   obtain⟨l',us',h1,h2,h3⟩:=res_ok r' q
   refine⟨r'.defers.1,_,results_run h1,_,rfl,?_⟩
   have hup1:=r'.up.1
   have hup2:=r'.up.2
   rw[hup] at hup1 hup2
   have hup2':∀(i:Nat) (x:AV) (v:Value),(st.tmps++st.up)[i]?=some x→(a.tmps.toList++im0.ex)[i]?=some v→VR c' x v:=hup2
   have rb:Rel w0 im0 c' { st' with tmps:=st.tmps,up:=st.up } a w':=by
    refine⟨r.defers,r.size,fun i x v e1 e2=>?_,r'.below,r'.imle,r'.imold,r'.imok,r'.ownlen,r'.own,r'.tklen,r'.tail,r'.tok,r'.apart,r'.glob,⟨r.up.1,fun i x v e1 e2=>?_⟩,r'.hole⟩
    ·have e1:st.tmps[i]?=some x:=e1
     have hlt:i<st.tmps.length:=(List.getElem?_eq_some_iff.1 e1).1
     refine hup2' i x v ?_ ?_
     ·rw[List.getElem?_append_left hlt];exact e1
     ·rw[List.getElem?_append_left (by rw[Array.length_toList,r.size];exact hlt)];simpa using e2
    ·have e1:st.up[i]?=some x:=e1
     refine hup2' (st.tmps.length+i) x v ?_ ?_
     ·rw[List.getElem?_append_right (by omega)]
      rw[Nat.add_sub_cancel_left];exact e1
     ·rw[List.getElem?_append_right (by rw[Array.length_toList,r.size];omega),Array.length_toList,r.size,Nat.add_sub_cancel_left];exact e2
   refine⟨c',_,tupOf l',rb,?_,h3⟩
   cases l' with
   |nil=>
    have:us'=[]:=List.eq_nil_of_length_eq_zero h2.1
    subst this
    exact .tup [] [] rfl (by simp)
   |cons x l'=>cases l' with
    |nil=>
     cases us' with
     |nil=>have:=h2.1;simp at this
     |cons u us'=>
      have:us'=[]:=List.eq_nil_of_length_eq_zero (by have:=h2.1;simpa using this)
      subst this
      exact h2.2 0 x u rfl rfl
    |cons z l'=>
     have hl2:us'.length=(x::z::l').length:=h2.1
     rw[if_neg (by rw[hl2];simp)]
     exact .tup _ us' h2.1 h2.2
  cases e<;>simp only[AInPost] at q<;>first|exact q.elim|skip
  case normal=>exact fin q
  case ret=>exact fin q
theorem AWPL.boundCall{E:Env}{Q:Exit→St→Prop}{st:St}{ops:Array Oper}{l:List Oper}{d:Tmp}{dst:Option Tmp}{g F:FuncId}{p x:Operand}{tys:Array TypeId}{ty ty2:TypeId}{pos pos2:String}{after after2:Array Edge}
 (hc:callable E.P g=true) (hd:d<st.tmps.length) (hp:(st.put (some d) .any).ev p=st.ev p)
 (h:∀(w0:World) (im0:Base) (cx:Ctx) (a:Act) (w:World) (pv rv:Value),E.ok w0→GOB E im0→Rel w0 im0 cx (st.put (some d) .any) a w→pv=a.eval p→VR cx (st.ev p) pv→VR cx (st.ev x) rv→
   Calls E.P g #[pv,.func (.func F) #[rv] #[]] w fun e w'=>∃v,e= .returned v∧∃cx' st' z,Rel w0 im0 cx' st' a w'∧VR cx' z v∧AWPL E ops l Q (st'.put dst z)):
 AWPL E ops (⟨some d,.makeFunc (.func F) #[x] #[],ty,pos,after,none⟩::⟨dst,.call ⟨.value (.func g),#[p,.tmp d],tys⟩,ty2,pos2,after2,none⟩::l) Q st:=by
 intro w0 im0 cx a w h0 hG r
 refine wpList_step (fun K' hK'=>?_)
 have hw:Region.wanted ⟨some d,.makeFunc (.func F) #[x] #[],ty,pos,after,none⟩ (yielded ops a.tmps)=true:=rfl
 rw[if_pos hw]
 have hrun:(execOp a.eval ⟨some d,.makeFunc (.func F) #[x] #[],ty,pos,after,none⟩).run E.P w= .ok (.value (.func (.func F) #[a.eval x] #[])) w:=by
  simp[execOp,go_sem]
 unfold Oper.wp
 rw[hrun]
 simp only[Oper.upon]
 refine hK' _ _ ?_
 have hxv:=r.ev x
 have r1:Rel w0 im0 cx (st.put (some d) .any) (a.put (some d) (.func (.func F) #[a.eval x] #[])) w:=r.put (some d) (.base (.any _))
 refine wpList_step (fun K2 hK2=>?_)
 have hw2:Region.wanted ⟨dst,.call ⟨.value (.func g),#[p,.tmp d],tys⟩,ty2,pos2,after2,none⟩ (yielded ops (a.put (some d) (.func (.func F) #[a.eval x] #[])).tmps)=true:=rfl
 rw[if_pos hw2]
 have hpv:=r1.ev p
 rw[hp] at hpv
 have hdv:(a.put (some d) (.func (.func F) #[a.eval x] #[])).eval (.tmp d)= .func (.func F) #[a.eval x] #[]:=by
  have:d<a.tmps.size:=by rw[r.size];exact hd
  simp[Act.put,Act.eval,this]
 have hrun2:(execOp (a.put (some d) (.func (.func F) #[a.eval x] #[])).eval ⟨dst,.call ⟨.value (.func g),#[p,.tmp d],tys⟩,ty2,pos2,after2,none⟩).run E.P w= .ok (.enter g #[(a.put (some d) (.func (.func F) #[a.eval x] #[])).eval p,.func (.func F) #[a.eval x] #[]]) w:=by
  unfold callable at hc
  split at hc
  ·rename_i fn hf
   simp only[Bool.and_eq_true,Bool.not_eq_true'] at hc
   obtain⟨hn1,hn2⟩:=hc
   have hbn:fn.body.isNone=false:=by
    cases hb:fn.body with
    |none=>rw[hb] at hn2;simp at hn2
    |some b=>rfl
   have he':(a.put (some d) (.func (.func F) #[a.eval x] #[])).eval (.func g)= .func (.func g) #[] #[]:=rfl
   simp only[execOp,resolve,he',Deferred.ofValue,Sem.run_bind,Sem.run_pure,Result.andThen_ok,invoke,callFunc,run_program,hf,hn1,Bool.false_eq_true,if_false,hbn,Array.empty_append,List.map_toArray,List.map_cons,List.map_nil,hdv,Array.append_empty]
  ·simp at hc
 unfold Oper.wp
 rw[hrun2]
 simp only[Oper.upon]
 refine(h w0 im0 cx _ w _ _ h0 hG r1 rfl hpv hxv).mono ?_
 rintro e w' ⟨v,rfl,cx',st',z,r',hz,hk⟩
 exact hK2 _ _ (hk w0 im0 cx' _ w' h0 hG (r'.put dst hz))
theorem AV.bel1_mono{no nt no' nt':Nat}(h1:no≤no')(h2:nt≤nt'){x:AV}(h:x.bel1 no nt=true):x.bel1 no' nt'=true:=by
 cases x with
 |sl t k es=>cases t with
  |none=>rfl
  |some t=>simp only[AV.bel1,decide_eq_true_eq] at *;omega
 |mu=>simp only[AV.bel1,decide_eq_true_eq] at *;omega
 |ptr=>simp only[AV.bel1,decide_eq_true_eq] at *;omega
 |fn f cs=>cases cs<;>simp_all[AV.bel1]
 |_=>simp_all[AV.bel1]
theorem AV.bel2_mono{no nt no' nt':Nat}(h1:no≤no')(h2:nt≤nt'){x:AV}(h:x.bel2 no nt=true):x.bel2 no' nt'=true:=by
 cases x with
 |agg cs=>simp only[AV.bel2,List.all_eq_true] at *;exact fun y hy=>AV.bel1_mono h1 h2 (h y hy)
 |fn f cs=>simp only[AV.bel2,List.all_eq_true] at *;exact fun y hy=>AV.bel1_mono h1 h2 (h y hy)
 |_=>simp only[AV.bel2] at *;first|exact AV.bel1_mono h1 h2 h|rfl
theorem AV.bel_mono{no nt no' nt':Nat}(h1:no≤no')(h2:nt≤nt'){x:AV}(h:x.bel no nt=true):x.bel no' nt'=true:=by
 cases x with
 |tup cs=>simp only[AV.bel,List.all_eq_true] at *;exact fun y hy=>AV.bel2_mono h1 h2 (h y hy)
 |_=>simp only[AV.bel] at *;exact AV.bel2_mono h1 h2 h
def OwnBel(own:List (Option (List AV)))(no nt:Nat):Prop:=∀es,some es∈own→∀e∈es,∀z∈e.leaves,z.bel no nt=true
theorem OwnBel.mono{own:List (Option (List AV))}{no nt no' nt':Nat}(h:OwnBel own no nt)(h1:no≤no')(h2:nt≤nt'):OwnBel own no' nt':=fun es hes e he z hz=>AV.bel_mono h1 h2 (h es hes e he z hz)
theorem OwnBel.app{own l:List (Option (List AV))}{no nt:Nat}(h:OwnBel own no nt)(h2:OwnBel l no nt):OwnBel (own++l) no nt:=fun es hes=>(List.mem_append.1 hes).elim (h es) (h2 es)
theorem OwnBel.set{own:List (Option (List AV))}{no nt id:Nat}{x:List AV}(h:OwnBel own no nt)(h2:∀e∈x,∀z∈e.leaves,z.bel no nt=true):OwnBel (own.set id (some x)) no nt:=fun es hes=>by
 rcases List.mem_or_eq_of_mem_set hes with hes|hes
 ·exact h es hes
 ·simp only[Option.some.injEq] at hes;subst hes;exact h2
theorem OwnBel.nil{no nt:Nat}:OwnBel [] no nt:=fun es hes=>by simp at hes
theorem OwnBel.cons{own:List (Option (List AV))}{no nt:Nat}{x:Option (List AV)}(h:∀es,x=some es→∀e∈es,∀z∈e.leaves,z.bel no nt=true)(h2:OwnBel own no nt):OwnBel (x::own) no nt:=fun es hes=>by
 rcases List.mem_cons.1 hes with hes|hes
 ·exact h es hes.symm
 ·exact h2 es hes
theorem OwnBel.wk{own:List (Option (List AV))}{no nt:Nat}(h:OwnBel own no nt):WkO no nt own own:=wkO_self h
section
variable{α:Type}{own:List α}{a b c x:α}
end
end Go.Abs
end
section
namespace Go.Proofs.YthoonfpkfdjhiaaGreatDoor
open Go Go.Abs Go.RowKit
abbrev bvV(x:BitVec 32):AV:= .v (.int .u32 (x.toNat:Int))
def sumsV(i:Nat):List AV:=(List.range 256).map fun j=>bvV (if j<i then Kp.tabC (BitVec.ofNat 32 j) else 0)
def tblV(d l:Int)(i:Nat):AV:= .agg (.v (.int .u32 d):: .v (.int .i32 l):: .v (.int .u32 0)::sumsV i)
theorem sums_len(i:Nat):(sumsV i).length=256:=by simp[sumsV]
theorem sums_get{i j:Nat}(hj:j<256):(sumsV i)[j]?=some (bvV (if j<i then Kp.tabC (BitVec.ofNat 32 j) else 0)):=by
 unfold sumsV;rw[List.getElem?_map,List.getElem?_range hj];rfl
theorem sums_set{i:Nat}(hi:i<256):(sumsV i).set i (bvV (Kp.tabC (BitVec.ofNat 32 i)))=sumsV (i+1):=by
 apply List.ext_getElem?
 intro j
 by_cases hj:j<256
 ·rw[List.getElem?_set]
  by_cases e:i=j
  ·subst e
   rw[if_pos rfl,if_pos (by rw[sums_len];exact hj),sums_get hj,if_pos (Nat.lt_succ_self i)]
  ·rw[if_neg e,sums_get hj,sums_get hj]
   by_cases h:j<i
   ·rw[if_pos h,if_pos (by omega)]
   ·rw[if_neg h,if_neg (by omega)]
 ·rw[List.getElem?_eq_none (by rw[List.length_set,sums_len];omega),List.getElem?_eq_none (by rw[sums_len];omega)]
theorem ofInt_nat(x:BitVec 32):BitVec.ofInt 32 (x.toNat:Int)=x:=by simp
theorem wrap_bv(x:BitVec 32):IntKind.u32.wrap ((x.toNat:Nat):Int)=(x.toNat:Int):=by
 have:=x.isLt
 simp only[IntKind.wrap,IntKind.bits,IntKind.signed,Bool.false_and,Bool.false_eq_true,if_false]
 omega
theorem and_one(x:BitVec 32):(x &&& 1#32).toNat=if x.getLsbD 0 then 1 else 0:=by
 have h:(x &&& 1#32)=if x.getLsbD 0 then 1#32 else 0#32:=by
  apply BitVec.eq_of_getLsbD_eq
  intro i hi
  rw[BitVec.getLsbD_and]
  have e:(1#32).getLsbD i=decide (i=0):=by
   have:∀j:Fin 32,(1#32).getLsbD j.1=decide (j.1=0):=by decide
   exact this ⟨i,hi⟩
  rw[e]
  by_cases h0:i=0
  ·subst h0;cases x.getLsbD 0<;>simp
  ·cases x.getLsbD 0<;>simp[h0,e]
 rw[h];split<;>rfl
theorem shr_one(x:BitVec 32):((x.toNat:Int)).fdiv 2=((x >>> 1).toNat:Int):=by
 rw[BitVec.toNat_ushiftRight,Nat.shiftRight_eq_div_pow,Int.fdiv_eq_ediv_of_nonneg _ (by decide)]
 rfl
theorem steps_end:∀(n:Nat) (x:BitVec 32),Kp.stepsC (n+1) x=Kp.stepC (Kp.stepsC n x)
 |0,_=>rfl
 |n+1,x=>by
  show Kp.stepsC (n+1) (Kp.stepC x)=_
  rw[steps_end n];rfl
theorem tbl_bel{d l:Int}{i no nt:Nat}{e z:AV}(he:e∈[tblV d l i])(hz:z∈e.leaves):z.bel no nt=true:=by
 simp only[List.mem_singleton] at he
 subst he
 simp only[tblV,AV.leaves,List.mem_cons,sumsV,List.mem_map] at hz
 rcases hz with rfl|rfl|rfl|⟨j,_,rfl⟩<;>rfl
theorem conv_u32{i:Nat}(h:i<256):IntKind.u32.wrap (i:Int)=((BitVec.ofNat 32 i).toNat:Int):=by
 simp only[IntKind.wrap,IntKind.bits,IntKind.signed,Bool.false_and,Bool.false_eq_true,if_false,BitVec.toNat_ofNat]
 omega
theorem kont{P K1:St→Prop}{s:St}(h:∀s,P s→K1 s)(p:P s):K1 s:=h s p
theorem and_w(x:BitVec 32):IntKind.u32.wrap ((x &&& BitVec.ofInt 32 1).toNat:Int)=if x.getLsbD 0 then 1 else 0:=by
 have e:BitVec.ofInt 32 1=1#32:=by decide
 rw[e,and_one];split<;>decide
theorem fdiv_one(x:BitVec 32):((x.toNat:Int)).fdiv (2^min 1 32)=((x >>> 1).toNat:Int):=shr_one x
theorem odd_eq{x:BitVec 32}{j:Nat}(c:IntKind.u32.wrap ((Kp.stepsC j x &&& BitVec.ofInt 32 1).toNat:Int)=1):
 bvV (Kp.stepsC (j+1) x)=AV.v (.int .u32 (IntKind.u32.wrap ((BitVec.ofInt 32 (((Kp.stepsC j x).toNat:Int).fdiv (2^min 1 32)) ^^^ BitVec.ofInt 32 3988292384).toNat:Int))):=by
 rw[and_w] at c
 have hb:(Kp.stepsC j x).getLsbD 0=true:=by
  cases h:(Kp.stepsC j x).getLsbD 0 with
  |true=>rfl
  |false=>rw[h] at c;simp at c
 rw[fdiv_one,ofInt_nat,wrap_bv,steps_end]
 unfold Kp.stepC;rw[hb];rfl
theorem even_eq{x:BitVec 32}{j:Nat}(c:¬IntKind.u32.wrap ((Kp.stepsC j x &&& BitVec.ofInt 32 1).toNat:Int)=1):
 bvV (Kp.stepsC (j+1) x)=AV.v (.int .u32 (((Kp.stepsC j x).toNat:Int).fdiv (2^min 1 32))):=by
 rw[and_w] at c
 have hb:(Kp.stepsC j x).getLsbD 0=false:=by
  cases h:(Kp.stepsC j x).getLsbD 0 with
  |false=>rfl
  |true=>rw[h] at c;simp at c
 rw[fdiv_one,steps_end]
 unfold Kp.stepC;rw[hb];rfl
theorem ctr_eq{j:Nat}(h:j<1000):i64 ((j+1:Nat):Int)=AV.v (.int .i64 (IntKind.i64.wrap ((j:Int)+1))):=by
 rw[wrap64_id (by omega) (by omega)];rfl
theorem tbl_leaves(d l:Int)(i:Nat):(tblV d l i).leaves.length=259:=by
 simp[tblV,AV.leaves,sums_len]
theorem tbl_store{i:Nat}(hi:i<256):stEl (tblV 0 1 i) (3+i) (bvV (Kp.stepsC 8 (BitVec.ofNat 32 i)))=tblV 0 1 (i+1):=by
 unfold stEl
 rw[if_neg (by omega)]
 show AV.agg (((AV.v (.int .u32 0)):: .v (.int .i32 1):: .v (.int .u32 0)::sumsV i).set (3+i) _)=_
 have:3+i=i+1+1+1:=by omega
 rw[this]
 simp only[List.set_cons_succ]
 unfold tblV
 rw[←sums_set hi];rfl
end Go.Proofs.YthoonfpkfdjhiaaGreatDoor
end
section
namespace Go.Proofs.YthoonfpkfdjhiaaGreatDoor
open Go
theorem disable(w:World):(callFunc 292 #[]).run Tryz.prog w= .ok (.value (.tuple #[])) w:=run_call_mark0 Tryz.func292 (by kernel_rfl) (by kernel_rfl) (by kernel_rfl) .disable (by kernel_rfl) w
theorem enable(w:World):(callFunc 294 #[]).run Tryz.prog w= .ok (.value (.tuple #[])) w:=run_call_mark0 Tryz.func294 (by kernel_rfl) (by kernel_rfl) (by kernel_rfl) .enable (by kernel_rfl) w
theorem acquire(a:Addr)(w:World):(callFunc 295 #[.pointer (some a)]).run Tryz.prog w= .ok (.value (.tuple #[])) w:=run_call_marked Tryz.func295 (by kernel_rfl) (by kernel_rfl) (by kernel_rfl) .acquire (by kernel_rfl) a w
theorem releaseMerge(a:Addr)(w:World):(callFunc 297 #[.pointer (some a)]).run Tryz.prog w= .ok (.value (.tuple #[])) w:=run_call_marked Tryz.func297 (by kernel_rfl) (by kernel_rfl) (by kernel_rfl) .releaseMerge (by kernel_rfl) a w
set_option maxRecDepth 100000 in
theorem store_deferred(a:Addr)(x:Value)(u:FrameMode)(w:World)(hc:w.cell? a=some x)(hz:w.frozen? a=false):
 CallsD Tryz.prog 284 #[.pointer (some a),.bool true] u w fun e u' w'=>u'=u∧(e= .returned (.tuple #[])∧w'=w.drew.setCell a (.int .u32 1)):=by
 have hc':w.drew.cell? a=some x:=by go_simp
 have hz':w.drew.frozen? a=false:=by go_simp
 have hst:=run_call_store (P:=Tryz.prog) Tryz.func290 (by kernel_rfl) (by kernel_rfl) (by kernel_rfl) (by kernel_rfl) (k:= .u32) (y:=1) hc' hz'
 go_enter_d Tryz.func284,Tryz.ntmps284
 go_wp2
 go_region_calls
 all_goals(go_end0;exact⟨rfl,rfl⟩)
set_option maxRecDepth 100000 in
theorem unlock_deferred(a:Addr)(u:FrameMode)(w:World)(hc:w.cell? a=some (.int .i32 1))(hz:w.frozen? a=false):
 CallsD Tryz.prog 283 #[.pointer (some a)] u w fun e u' w'=>u'=u∧(e= .returned (.tuple #[])∧w'=w.setCell a (.int .i32 0)):=by
 have hd:=disable
 have he:=enable
 have hr:=releaseMerge
 have hadd:=run_call_add (P:=Tryz.prog) Tryz.func298 (by kernel_rfl) (by kernel_rfl) (by kernel_rfl) .i32 (by kernel_rfl) (y:=-1) (s:=0) hc hz (by simp[go_sem];rfl)
 have hcv:=run_convert_to_unsafe (P:=Tryz.prog) (src:=363) (dst:=367) Tryz.underlying363 Tryz.underlying367 (by kernel_rfl) hc
 go_enter_d Tryz.func283,Tryz.ntmps283
 go_wp2
 go_end0
 go_wp2
 go_end0
 exact⟨rfl,rfl⟩
set_option maxRecDepth 100000 in
theorem lock_free(a:Addr)(w:World)(hc:w.cell? a=some (.int .i32 0))(hz:w.frozen? a=false):
 Calls Tryz.prog 282 #[.pointer (some a)] w fun e w'=>e= .returned (.tuple #[])∧w'=w.setCell a (.int .i32 1):=by
 have hd:=disable
 have he:=enable
 have ha:=acquire
 have hcas:=run_call_cas_hit (P:=Tryz.prog) Tryz.func293 (by kernel_rfl) (by kernel_rfl) (by kernel_rfl) .i32 (by kernel_rfl) (y:=1) hc hz
 have hc':(w.setCell a (.int .i32 1)).cell? a=some (.int .i32 1):=World.cell?_setCell_same w a _ hc
 have hcv:=run_convert_to_unsafe (P:=Tryz.prog) (src:=363) (dst:=367) Tryz.underlying363 Tryz.underlying367 (by kernel_rfl) hc'
 go_enter Tryz.func282,Tryz.ntmps282
 go_wp2
 (refine bodyPost_ret (results_none rfl _ _ _) rfl ?_)
 go_wp2
 go_end0
 exact⟨rfl,rfl⟩
set_option maxRecDepth 100000 in
theorem slow_of(b off:Nat)(tb:Addr)(R:World→Prop)(w:World)
 (h0:w.cell? ⟨b,off,none⟩=some (.int .u32 0)) (h1:w.cell? ⟨b,off+1,none⟩=some (.int .i32 0)) (f1:w.frozen? ⟨b,off+1,none⟩=false)
 (hf:Calls Tryz.prog 215 #[.pointer (some tb)] (w.setCell ⟨b,off+1,none⟩ (.int .i32 1)) fun e w'=>e= .returned (.tuple #[])∧R w')
 (hR:∀w2,R w2→w2.cell? ⟨b,off,none⟩=some (.int .u32 0)∧w2.cell? ⟨b,off+1,none⟩=some (.int .i32 1)∧w2.frozen? ⟨b,off,none⟩=false∧w2.frozen? ⟨b,off+1,none⟩=false):
 Calls Tryz.prog 260 #[.pointer (some ⟨b,off,none⟩),.func (.func 215) #[.pointer (some tb)] #[]] w fun e w'=>e= .returned (.tuple #[])∧
  ∃w2,R w2∧w'=(w2.drew.setCell ⟨b,off,none⟩ (.int .u32 1)).setCell ⟨b,off+1,none⟩ (.int .i32 0):=by
 have hl:=run_call_load (P:=Tryz.prog) Tryz.func281 (by kernel_rfl) (by kernel_rfl) (by kernel_rfl) .u32 (by kernel_rfl) (w:=w.setCell ⟨b,off+1,none⟩ (.int .i32 1)) (a:=⟨b,off,none⟩) (x:=0) ((World.cell?_setCell_other _ ⟨b,off+1,none⟩ ⟨b,off,none⟩ _ (by simp)).trans h0)
 have hnot:∀(x:Bool) (w:World),(Op.unary .not (.bool x)).run Tryz.prog w= .ok (.bool (!x)) w:=fun _ _=>rfl
 go_enter_defers Tryz.func260,Tryz.ntmps260
 go_wp2_with (go_at_call 282;refine(lock_free ⟨b,off+1,none⟩ _ (by go_simp) (by go_simp)).mono ?_;rintro e w' ⟨rfl,rfl⟩)
 go_wp2_with (first|(go_at_call 215;refine hf.mono ?_;rintro e w2 ⟨rfl,hw2⟩)|(go_at_call 259;go_in))
 obtain⟨g0,g1,z0,z1⟩:=hR w2 hw2
 refine leaves_cons (f:=284) (args:=#[.pointer (some ⟨b,off,none⟩),.bool true]) (by simp) (by simp[go_sem]) ?_
 refine(store_deferred ⟨b,off,none⟩ (.int .u32 0) .returning _ g0 z0).mono ?_
 rintro e u' w'' ⟨rfl,rfl,rfl⟩
 refine leaves_cons (f:=283) (args:=#[.pointer (some ⟨b,off+1,none⟩)]) (by simp[settle]) (by simp[go_sem]) ?_
 refine(unlock_deferred ⟨b,off+1,none⟩ _ _ ?_ (by simp[z1])).mono ?_
 ·refine(World.cell?_setCell_other _ ⟨b,off,none⟩ ⟨b,off+1,none⟩ _ (by simp)).trans ?_
  rw[World.cell?_drew]
  exact g1
 rintro e u' w'' ⟨rfl,rfl,rfl⟩
 simp[Leaves,settle,results,Tryz.results260]
 exact⟨w2,hw2,rfl⟩
set_option maxRecDepth 100000 in
theorem do_of(b off:Nat)(tb:Addr)(R:World→Prop)(w:World)
 (h0:w.cell? ⟨b,off,none⟩=some (.int .u32 0)) (h1:w.cell? ⟨b,off+1,none⟩=some (.int .i32 0)) (f1:w.frozen? ⟨b,off+1,none⟩=false)
 (hf:Calls Tryz.prog 215 #[.pointer (some tb)] (w.setCell ⟨b,off+1,none⟩ (.int .i32 1)) fun e w'=>e= .returned (.tuple #[])∧R w')
 (hR:∀w2,R w2→w2.cell? ⟨b,off,none⟩=some (.int .u32 0)∧w2.cell? ⟨b,off+1,none⟩=some (.int .i32 1)∧w2.frozen? ⟨b,off,none⟩=false∧w2.frozen? ⟨b,off+1,none⟩=false):
 Calls Tryz.prog 214 #[.pointer (some ⟨b,off,none⟩),.func (.func 215) #[.pointer (some tb)] #[]] w fun e w'=>e= .returned (.tuple #[])∧
  ∃w2,R w2∧w'=(w2.drew.setCell ⟨b,off,none⟩ (.int .u32 1)).setCell ⟨b,off+1,none⟩ (.int .i32 0):=by
 have hl:=run_call_load (P:=Tryz.prog) Tryz.func281 (by kernel_rfl) (by kernel_rfl) (by kernel_rfl) .u32 (by kernel_rfl) h0
 have hnot:∀(x:Bool) (w:World),(Op.unary .not (.bool x)).run Tryz.prog w= .ok (.bool (!x)) w:=fun _ _=>rfl
 go_enter Tryz.func214,Tryz.ntmps214
 go_wp2_with (first|(go_at_call 260;refine(slow_of b off tb R _ h0 h1 f1 hf hR).mono ?_;rintro e w' ⟨rfl,w2,hw2,rfl⟩)|(go_at_call 259;go_in))
 go_end0
 exact⟨rfl,w2,hw2,rfl⟩
set_option maxRecDepth 100000 in
theorem do_done(a:Addr)(d:Int)(hd:¬d=0)(fv:Value)(w:World)(h0:w.cell? a=some (.int .u32 d)):
 Calls Tryz.prog 214 #[.pointer (some a),fv] w fun e w'=>e= .returned (.tuple #[])∧w'=w:=by
 have hl:=run_call_load (P:=Tryz.prog) Tryz.func281 (by kernel_rfl) (by kernel_rfl) (by kernel_rfl) .u32 (by kernel_rfl) h0
 have hnot:∀(x:Bool) (w:World),(Op.unary .not (.bool x)).run Tryz.prog w= .ok (.bool (!x)) w:=fun _ _=>rfl
 have hd':(d !=0)=true:=by simp[hd]
 go_enter Tryz.func214,Tryz.ntmps214
 go_wp2
 go_end0
 exact⟨rfl,rfl⟩
end Go.Proofs.YthoonfpkfdjhiaaGreatDoor
end
section
namespace Go.Abs
open Go Go.RowKit
section
variable{P:Program}{w0:World}{im0:Base}{c:Ctx}{st:St}{a:Act}{w:World}
theorem Rel.ownCell(r:Rel w0 im0 c st a w){id g q idx off:Nat}{es:List AV}{e:AV}{x:Value}
 (hb:c.β[id]?=some (some (g,q))) (ho:st.own[id]?=some (some es)) (he:es[idx]?=some e) (hl:e.leaves[off]?=some (.v x)):
 w.cell? ⟨g,idx*q+off,none⟩=some x∧w.frozen? ⟨g,idx*q+off,none⟩=false:=by
 obtain⟨cs,ty,lo,hi,hblk,hfro,hsz,hkk,hcell⟩:=(r.own id g q es hb ho).blk
 obtain⟨v,hv,hvr,_⟩:=hcell idx e off _ he hl
 have hvx:v=x:=hvr.inv_v
 subst hvx
 have hlt:idx*q+off<cs.size:=(Array.getElem?_eq_some_iff.1 hv).1
 refine⟨by simp[World.cell?,hblk,hv],?_⟩
 simp only[World.frozen?,hblk,Bool.and_eq_false_iff,decide_eq_false_iff_not]
 rcases hfro with h|h<;>omega
theorem Rel.setCell{t:TypeId}(ht:tsz P t=some 1)(r:Rel w0 im0 c st a w){id g q idx off:Nat}{es:List AV}{e:AV}{v:Value}
 (hb:c.β[id]?=some (some (g,q))) (ho:st.own[id]?=some (some es)) (he:es[idx]?=some e) (hoff:off+1≤e.leaves.length)
 (hcs:v.cells= #[v]) (hone:v.oneCell'=true):
 Rel w0 im0 c { st with own:=st.own.set id (some (es.set idx (stEl e off (.v v)))) } a (w.setCell ⟨g,idx*q+off,none⟩ v):=by
 have ha:VR c (.ptr id idx off) (.pointer (some ⟨g,idx*q+off,none⟩)):= .ptr hb
 have hx:VR c (.v v) v:= .base (.v v)
 obtain⟨w',st',h1,h2,h3⟩:=store_ok (P:=P) r (t:=t) ha hx (K:=fun s=>s={ st with own:=st.own.set id (some (es.set idx (stEl e off (.v v)))) })
  ⟨1,es,e,ht,ho,he,hone,by simp[AV.leaves,AV.leafy,hone],rfl,hoff,rfl⟩
 subst h3
 have hw:w'=w.setCell ⟨g,idx*q+off,none⟩ v:=by
  obtain⟨cs,ty,lo,hi,hblk,hfro,hsz,hkk,hcell⟩:=(r.own id g q es hb ho).blk
  have hq:=hkk idx e he
  have hidx:idx<es.length:=by
   rcases Nat.lt_or_ge idx es.length with h'|h'
   ·exact h'
   ·rw[List.getElem?_eq_none h'] at he;simp at he
  have hmul:idx*q+q≤es.length*q:=by rw[←Nat.succ_mul];exact Nat.mul_le_mul_right q hidx
  have hfro':∀o,o<cs.toList.length→¬(lo≤o∧o<hi):=fun o h1 h2=>by
   have h1:o<cs.size:=by simpa using h1
   rcases hfro with h|h<;>omega
  have hsz':es.length*q≤cs.toList.length:=by simpa using hsz
  have hrun:=run_storePut (P:=P) g (idx*q+off) ty lo hi [v] 0 cs.toList w (by simpa using hblk) hfro' (by simp;omega) (by simp[hone])
  have hsc:w.setRow g (putV cs.toList (idx*q+off+0) [v]).toArray=w.setCell ⟨g,idx*q+off,none⟩ v:=by
   rw[setCell_eq_setRow w g (idx*q+off) cs ty (lo,hi) v hblk]
   congr 1
   apply Array.ext'
   simp[putV]
  rw[hsc] at hrun
  have hst:(Instr.storeAt t (.pointer (some ⟨g,idx*q+off,none⟩)) v).run P w= .ok () (w.setCell ⟨g,idx*q+off,none⟩ v):=by
   simp only[Instr.storeAt,Instr.sureAddr,storeVar,Sem.run_bind,Sem.run_pure,Result.andThen_ok,tsz_run ht]
   simp[hcs,hrun]
  rw[hst] at h1
  simp only[Result.ok.injEq,true_and] at h1
  exact h1.symm
 rw[←hw]
 exact h2
end
section
variable{E:Env}{Q:Exit→St→Prop}{st:St}{ops:Array Oper}{l:List Oper}
end
end Go.Abs
end
