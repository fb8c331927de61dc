/- Texts of one chain, put together (KpH, Y1, Y2, Y3, Z3, Z4, Z5, S1, S2, R19, R9, G10, G11). -/
import Derived.Test.YthoonfpkfdjhiaaGreatDoorKbG
import Derived.Test.YthoonfpkfdjhiaaGreatDoorKbO
import Derived.Test.YthoonfpkfdjhiaaGreatDoorKbJ
import Derived.Test.YthoonfpkfdjhiaaGreatDoorKbH
import Derived.Test.YthoonfpkfdjhiaaGreatDoorKbA
set_option linter.unusedVariables false
set_option linter.unusedSimpArgs false
set_option maxHeartbeats 16000000
set_option maxRecDepth 8000
section
namespace Go.Txt
open Go.Fld Go.Msg
theorem zr{n:Nat}:∀{l:List Fld.Fd} {t:Int},(∀f∈l,f.2.length≤n)→(bN l t).1.length≤n
 |[],_,_=>Nat.zero_le _
 |f::l,t,h=>by
  rw[bN]
  split
  ·exact h f aB
  ·exact zr fun g hg=>h g (by simp[hg])
theorem y0:∀{l:List Fld.Fd} {f:Fld.Fd},f∈l→f.2.length≤(bC l).length
 |[],_,h=>by simp at h
 |g::l,f,h=>by
  rw[bC,List.length_append]
  rcases List.mem_cons.1 h with rfl|h
  ·rw[gw];simp;omega
  ·have:=y0 h;omega
theorem Vz{x:List UInt8}(hx:x.length≤4200):(bF x).1.length≤100000∧(tx (bF x).1 9).length≤5000:=by
 refine⟨by have:=Bi x;omega,?_⟩
 by_cases h:(bF x).2=0
 ·have e:bF x=dH [] x:=by unfold bF;rw[if_neg ab]
  have e2:dH [] x=((bF x).1,0):=by rw[←e];exact Prod.ext rfl h
  obtain⟨l,h1,h2,_,_⟩:=VB x.length x [] _ (Nat.le_refl _) aB e2
  rw[List.nil_append] at h1
  have:=zr (l:=(bF x).1) (t:=9) (n:=x.length) fun f hf=>by rw[h2];rw[h1] at hf;exact y0 hf
  unfold tx;omega
 ·unfold tx;rw[Fld.Bl h];exact Nat.zero_le _
end Go.Txt
end
section
namespace Go.Proofs.YthoonfpkfdjhiaaGreatDoor
open Go Go.az Go.RowKit Go.Bk Go.Msg Go.Txt
theorem My{s:List UInt8}(h:¬(kU (s.map lf)).2=0):kz s=aX:=by unfold kz;rw[if_neg h]
theorem Mz{s:List UInt8}(h:(kU (s.map lf)).2=0):kz s=(kU (s.map lf)).1.exec:=by unfold kz;rw[if_pos h]
theorem EA{l:List Fld.Fd}(h:nm l 1=1):dI l=⟨1,nm l 2,⟨tx l 3,tx l 4,tx l 5,decide (tx l 6=[49]),nm l 7,nm l 8,0,false⟩,[],aX,0,false,Txt.bE⟩:=by rw[fT h];simp[fC]
theorem EB{l:List Fld.Fd}(h:nm l 1=2):dI l=⟨2,nm l 2,⟨tx l 4,[],[],false,nm l 7,nm l 8,0,false⟩,tx l 3,aX,0,false,Txt.bE⟩:=by rw[fT h];simp[fC]
theorem EC{l:List Fld.Fd}(h:nm l 1=3):dI l=⟨3,nm l 2,Txt.br,[],kz (tx l 9),0,false,Txt.bE⟩:=by rw[fT h];simp[fC]
theorem EE{l:List Fld.Fd}(h:nm l 1=4):dI l=⟨4,0,Txt.br,[],aX,nm l 10,false,Txt.bE⟩:=by rw[fT h];simp[fC]
theorem EF{l:List Fld.Fd}(h:nm l 1=5):dI l=⟨5,0,Txt.br,[],aX,0,decide (tx l 11=[49]),Txt.bE⟩:=by rw[fT h];simp[fC]
theorem EG{l:List Fld.Fd}(h:nm l 1=6):dI l=⟨6,nm l 2,Txt.br,[],aX,0,decide (tx l 11=[49]),Txt.bE⟩:=by rw[fT h];simp[fC]
theorem EH{l:List Fld.Fd}(h:nm l 1=7):dI l=⟨7,nm l 2,Txt.br,[],aX,0,false,Txt.bE⟩:=by rw[fT h];simp[fC]
theorem EI{l:List Fld.Fd}(h:nm l 1=8):dI l=⟨8,0,Txt.br,[],aX,0,false,⟨tx l 4,tx l 5,nm l 12,nm l 13,nm l 7,nm l 8⟩⟩:=by rw[fT h];simp[fC]
theorem Ez{l:List Fld.Fd}(h:¬nm l 1=1∧¬nm l 1=2∧¬nm l 1=3∧¬nm l 1=4∧¬nm l 1=5∧¬nm l 1=6∧¬nm l 1=7∧¬nm l 1=8):dI l=⟨nm l 1,0,Txt.br,[],aX,0,false,Txt.bE⟩:=by
 obtain⟨h1,h2,h3,h4,h5,h6,h7,h8⟩:=h
 rw[fT rfl];simp[fC,h1,h2,h3,h4,h5,h6,h7,h8]
theorem Wn{x:List UInt8}(h:¬(Fld.bF x).2=0):dt x=(jK,3):=by unfold dt;rw[if_neg h]
theorem BM{x:List UInt8}(h:(Fld.bF x).2=0)(h2:¬(cb (dI (Fld.bF x).1)).2=0∨¬(cb (dI (Fld.bF x).1)).1=x):dt x=(jK,3):=by
 unfold dt;rw[if_pos h,if_neg]
 intro e
 rw[e] at h2
 rcases h2 with h2|h2<;>exact h2 rfl
theorem Wo{x:List UInt8}(h:(Fld.bF x).2=0)(h2:(cb (dI (Fld.bF x).1)).2=0)(h3:(cb (dI (Fld.bF x).1)).1=x):dt x=(dI (Fld.bF x).1,0):=by
 unfold dt;rw[if_pos h,if_pos (Prod.ext h3 h2)]
theorem R3(l:List Fld.Fd)(tag:Int)(hl:l.length≤100000):ai E 72 [i64 tag,.bR [kB l]] (fun r t=>r=str (tx l tag)∧t=[]):=by
 refine ai.aC (n:=13) (rs:=[.tmp 3]) Tryz.func72 rfl Tryz.ntmps72 rfl ?_
 repeat'(first
 |refine aa.ah fun K hK=>?_
 |(refine aa.region ?_;simp only[go_sem])
 |(refine hK _ ?_;clear hK K)
 |(refine ak.one (u5 l tag ab) ae rfl ?_;simp only[go_sem])
 |(
  refine aa.ret ?_
  refine aN.is ?_;simp only[go_sem,aI,aH,aG,aK,aJ,aL]<;>(rfl)))
theorem Rp(l:List Fld.Fd)(tag:Int)(hl:l.length≤100000):ai E 74 [i64 tag,.bR [kB l]] (fun r t=>r=i64 (nm l tag)∧t=[]):=by
 refine ai.aC (n:=13) (rs:=[.tmp 3]) Tryz.func74 rfl Tryz.ntmps74 rfl ?_
 repeat'(first
 |refine aa.ah fun K hK=>?_
 |(refine aa.region ?_;simp only[go_sem])
 |(refine hK _ ?_;clear hK K)
 |(refine ak.one (zg l tag ab) ae rfl ?_;simp only[go_sem])
 |(
  refine aa.ret ?_
  refine aN.is ?_;simp only[go_sem,aI,aH,aG,aK,aJ,aL]<;>(rfl)))
theorem Rw(s:List UInt8)(hs:s.length≤5000):ai E 76 [str s] (fun r t=>r=ao (kz s)∧t=[]):=by
 refine ai.aC (n:=19) (rs:=[.cell 2 25]) Tryz.func76 rfl Tryz.ntmps76 rfl ?_
 repeat'(first
 |refine aa.ah fun K hK=>?_
 |(refine aa.region ?_;simp only[go_sem])
 |(refine hK _ ?_;clear hK K)
 |refine aa.cond rfl (fun c=>?_) (fun c=>?_)<;>(try simp only[dD] at c)
 |refine aa.skip ?_
 |(refine ak.one (WS s hs) ae rfl ?_;simp only[go_sem])
 |(refine ak.one (TR (s.map lf)) ae rfl ?_;simp only[go_sem])
 |(
  refine aa.ret ?_
  refine aN.is ?_;simp only[go_sem,aI,aH,aG,aK,aJ,aL]<;>(first|(rw[My af];exact⟨rfl,rfl,rfl,rfl,rfl,rfl,rfl,rfl,rfl,rfl⟩)|(rw[Mz af];exact⟨rfl,rfl,rfl,rfl,rfl,rfl,rfl,rfl,rfl,rfl⟩))))
theorem Ro(l:List Fld.Fd)(hl:l.length≤100000)(h9:(tx l 9).length≤5000):ai E 35 [kB l] (fun r t=>r=gq (dI l)∧t=[]):=by
 refine ai.aC (n:=89) (rs:=[.cell 2 29]) Tryz.func35 rfl Tryz.ntmps35 rfl ?_
 repeat'(first
 |refine aa.ah fun K hK=>?_
 |(
  refine aa.here 1 6 2 rfl ?_
  refine aa.oy 1 0 (.agg [kB l]) rfl rfl (by intro x hx;have hx2:x∈[kB l]:=hx;rw[List.mem_singleton] at hx2;subst hx2;rfl) ?_
  simp only[go_sem]
  refine aa.region ?_;simp only[go_sem])
 |(
  refine aa.here 13 26 16 rfl ?_
  exfalso
  omega)
 |(
  refine aa.here 15 43 4 rfl ?_
  exfalso
  omega)
 |(
  refine aa.here 18 56 5 rfl ?_
  exfalso
  omega)
 |(
  refine aa.here 20 62 4 rfl ?_
  exfalso
  omega)
 |(
  refine aa.here 23 68 5 rfl ?_
  exfalso
  omega)
 |(
  refine aa.here 25 74 15 rfl ?_
  exfalso
  omega)
 |(refine aa.region ?_;simp only[go_sem])
 |(refine hK _ ?_;clear hK K)
 |refine aa.block ?_
 |refine aa.cond rfl (fun c=>?_) (fun c=>?_)<;>(try simp only[dD] at c)
 |refine aa.skip ?_
 |(refine ak.one (Rw (tx l 9) h9) ae rfl ?_;simp only[go_sem])
 |(refine ak.one (R3 l _ hl) ae rfl ?_;simp only[go_sem])
 |(refine ak.one (Rp l _ hl) ae rfl ?_;simp only[go_sem])
 |(
  refine aa.ret ?_
  refine aN.is ?_;simp only[go_sem,aI,aH,aG,aK,aJ,aL]<;>(first|(rw[EA af];simp[*,aX,Txt.br,Txt.bE];done)|(rw[EB af];simp[*,aX,Txt.br,Txt.bE];done)|(rw[EC af];simp[*,aX,Txt.br,Txt.bE];done)|(rw[EE af];simp[*,aX,Txt.br,Txt.bE];done)|(rw[EF af];simp[*,aX,Txt.br,Txt.bE];done)|(rw[EG af];simp[*,aX,Txt.br,Txt.bE];done)|(rw[EH af];simp[*,aX,Txt.br,Txt.bE];done)|(rw[EI af];simp[*,aX,Txt.br,Txt.bE];done)|(rw[Ez ⟨by omega,by omega,by omega,by omega,by omega,by omega,by omega,by omega⟩];simp[*,aX,Txt.br,Txt.bE];done))))
theorem RV(x:List UInt8)(hx:x.length≤4200):ai E 11 [aU x] (fun r t=>r= .ax [gq (dt x).1,i64 (dt x).2]∧t=[]):=by
 have hpl:=Vz (x:=x) hx
 refine ai.aC (n:=33) (rs:=[.cell 2 29,.tmp 3]) Tryz.func11 rfl Tryz.ntmps11 rfl ?_
 repeat'(first
 |refine aa.ah fun K hK=>?_
 |(refine aa.region ?_;simp only[go_sem])
 |(refine hK _ ?_;clear hK K)
 |refine aa.cond rfl (fun c=>?_) (fun c=>?_)<;>first|exact Bool.noConfusion c|(try simp only[dD] at c)
 |refine aa.skip ?_
 |(refine ak.of (zi x) ae rfl ?_;rintro r t ⟨rfl,rfl⟩;simp only[go_sem])
 |(refine ak.one (Ro (Fld.bF x).1 hpl.1 hpl.2) ae rfl ?_;simp only[go_sem])
 |(refine ak.one (vB (dI (Fld.bF x).1)) ae rfl ?_;simp only[go_sem])
 |(refine ak.one (xY _ _) ae rfl ?_;simp only[go_sem])
 |(refine aP.split (fun h=>?_) (fun h=>?_)<;>simp only[h,go_sem]<;>(try simp only[dD] at h))
 |(
  refine aa.ret ?_
  refine aN.is ?_;simp only[go_sem,aI,aH,aG,aK,aJ,aL]<;>(first|(rw[Wn af];((simp[jK,aX,Txt.br,Txt.bE];done)))|(rw[BM af (.inl af)];((simp[jK,aX,Txt.br,Txt.bE];done)))|(rw[BM af (.inr af)];((simp[jK,aX,Txt.br,Txt.bE];done)))|(rw[Wo af af af];simp;done))))
end Go.Proofs.YthoonfpkfdjhiaaGreatDoor
end
section
namespace Go.Proofs.YthoonfpkfdjhiaaGreatDoor
open Go Go.az Go.RowKit Go.Bk Go.Txt
theorem Rh(d:Kp.Dk)(hd:ep d):ai E 45 [cH d] (fun r t=>r= .ax [ga (Kp.bP d).1,aU (Kp.bP d).2.1,.sl none 1 ((Kp.bP d).2.2.1.map aU),i64 (Kp.bP d).2.2.2]∧t=[]):=by
 cases hr:Kp.bV d with
 |true=>exact Rj d hr
 |false=>exact Ri d hd hr
def dY(g:Gt)(a:Ak):Gt×Int×Int:=if a.kind=4 then((fA g a.now).1,0,(fA g a.now).2) else(g,0,1)
theorem xP{g:Gt}{a:Ak}(h:a.kind=4):dY g a=((fA g a.now).1,0,(fA g a.now).2):=if_pos h
def kT(ask:Gt→Ak→Gt×Int×Int)(n p:Int)(d:Kp.Dk):AV:=
 if(cA n p).2=0 then(if(Kp.bP d).2.2.2=0 then .ax [fH n p ⟨(Kp.bP d).1,Kp.eb ask (cA n p).1 (Kp.bP d).2.2.1⟩,i64 0] else .ax [ln,i64 (Kp.bP d).2.2.2]) else .ax [ln,i64 (cA n p).2]
theorem Wg{ask:Gt→Ak→Gt×Int×Int}{n p:Int}{d:Kp.Dk}(h:¬(cA n p).2=0):kT ask n p d= .ax [ln,i64 (cA n p).2]:=if_neg h
theorem Wh{ask:Gt→Ak→Gt×Int×Int}{n p:Int}{d:Kp.Dk}(h:(cA n p).2=0)(h2:¬(Kp.bP d).2.2.2=0):kT ask n p d= .ax [ln,i64 (Kp.bP d).2.2.2]:=by unfold kT;rw[if_pos h,if_neg h2]
theorem oA{ask:Gt→Ak→Gt×Int×Int}{n p:Int}{d:Kp.Dk}{g:Gt}(h:(cA n p).2=0)(h2:(Kp.bP d).2.2.2=0)(h3:Kp.eb ask (cA n p).1 (Kp.bP d).2.2.1=g):kT ask n p d= .ax [fH n p ⟨(Kp.bP d).1,g⟩,i64 0]:=by unfold kT;rw[if_pos h,if_pos h2,h3]
theorem wm{l:List (List UInt8)}{i:Nat}{b:List UInt8}(h:l[i]?=some b):l.drop i=b::l.drop (i+1):=by
 obtain⟨hi,rfl⟩:=List.getElem?_eq_some_iff.1 h
 exact List.drop_eq_getElem_cons hi
theorem tf{ask:Gt→Ak→Gt×Int×Int}{g0 g:Gt}{l:List (List UInt8)}{i:Nat}(h:Kp.eb ask g0 l=Kp.eb ask g (l.drop i))(hi:l.length≤i):Kp.eb ask g0 l=g:=by rw[h,List.drop_of_length_le hi];rfl
theorem VL{ask:Gt→Ak→Gt×Int×Int}{g0 g:Gt}{l:List (List UInt8)}{i:Nat}{b:List UInt8}(h:Kp.eb ask g0 l=Kp.eb ask g (l.drop i))(hb:l[i]?=some b)(hr:¬(dt b).2=0):Kp.eb ask g0 l=g:=by rw[h,wm hb];exact if_neg hr
theorem VH{ask:Gt→Ak→Gt×Int×Int}{g0 g:Gt}{l:List (List UInt8)}{i:Nat}{b:List UInt8}(h:Kp.eb ask g0 l=Kp.eb ask g (l.drop i))(hb:l[i]?=some b)(hr:(dt b).2=0)(ha:¬(ask g (dt b).1).2.2=0):Kp.eb ask g0 l=g:=by rw[h,wm hb,Kp.eb,if_pos hr,if_neg ha]
theorem VJ{ask:Gt→Ak→Gt×Int×Int}{g0 g:Gt}{l:List (List UInt8)}{i:Nat}{b:List UInt8}(h:Kp.eb ask g0 l=Kp.eb ask g (l.drop i))(hb:l[i]?=some b)(hr:(dt b).2=0)(ha:(ask g (dt b).1).2.2=0):Kp.eb ask g0 l=Kp.eb ask (ask g (dt b).1).1 (l.drop (i+1)):=by rw[h,wm hb,Kp.eb,if_pos hr,if_pos ha]
theorem Qd{g:Gt}{no nt:Nat}:∀e∈[bK g],∀z∈e.leaves,z.bw no nt=true:=by
 intro e he z hz
 simp only[List.mem_singleton] at he
 subst he
 simp only[AV.leaves,List.mem_cons,List.not_mem_nil,or_false] at hz
 rcases hz with rfl|rfl|rfl|rfl|rfl<;>rfl
theorem zA{g:Gt}{no nt:Nat}:some [bK g]=none∨∀es,some [bK g]=some es→∀e∈es,∀z∈e.leaves,z.bw no nt=true:= .inr fun es h=>by cases h;exact Qd
theorem zX(g:Gt)(a:Ak)(hk:a.kind=4)(hg:dn g):ai E 38 [bK g,gq a] (fun r t=>r= .ax [bK (dY g a).1,i64 (dY g a).2.1,i64 (dY g a).2.2]∧t=[]):=by
 rw[xP hk]
 obtain⟨k,v,o,id,x,nw,on,li⟩:=a
 obtain rfl:k=4:=hk
 refine ai.aC (n:=101) (rs:=[.cell 4 55,.tmp 5,.tmp 6]) Tryz.func38 rfl Tryz.ntmps38 rfl ?_
 repeat'(first
 |refine aa.ah fun K hK=>?_
 |(refine aa.region ?_;simp only[go_sem])
 |(refine hK _ ?_;clear hK K)
 |refine aa.block ?_
 |refine aa.cond rfl (fun c=>?_) (fun c=>?_)<;>first|exact Bool.noConfusion c|(try simp only[dD] at c)
 |(refine ak.one (zB g nw hg) ae rfl ?_;simp only[go_sem])
 |(
  refine aa.ret ?_
  refine aN.is ?_;simp only[go_sem,aI,aH,aG,aK,aJ,aL]<;>(first|fail)))
theorem vC(ask:Gt→Ak→Gt×Int×Int)(P:Gt→Prop)(n p:Int)(d:Kp.Dk)(hd:ep d)(h0:(cA n p).2=0→P (cA n p).1)(hcnt:(Kp.bP d).2.2.1.length≤1000000)(hlen:∀b∈(Kp.bP d).2.2.1,b.length≤4200)(hask:∀g b,P g→b∈(Kp.bP d).2.2.1→(dt b).2=0→ai E 38 [bK g,gq (dt b).1] (fun r t=>r= .ax [bK (ask g (dt b).1).1,i64 (ask g (dt b).1).2.1,i64 (ask g (dt b).1).2.2]∧t=[])∧((ask g (dt b).1).2.2=0→P (ask g (dt b).1).1)):ai E 18 [i64 n,i64 p,cH d] (fun r t=>r=kT ask n p d∧t=[]):=by
 refine ai.aC (n:=69) (rs:=[.cell 6 57,.tmp 7]) Tryz.func18 rfl Tryz.ntmps18 rfl ?_
 repeat'(first
 |refine aa.ah fun K hK=>?_
 |(
  refine aa.here 9 44 3 rfl ?_
  obtain⟨e0,he0⟩:∃b,(Kp.bP d).2.2.1[i]?=some b:=⟨_,List.getElem?_eq_getElem ab⟩
  refine aa.region ?_;simp only[go_sem,List.getElem?_map,he0,Option.map_some])
 |(refine aa.region ?_;simp only[go_sem])
 |(refine hK _ ?_;clear hK K)
 |refine aa.block ?_
 |refine aa.cond rfl (fun c=>?_) (fun c=>?_)<;>(try simp only[dD] at c)
 |refine aa.skip ?_
 |(refine aa.exit ?_;simp only[go_sem])
 |(refine ak.one (P5 n p) ae rfl ?_;simp only[go_sem])
 |(refine ak.one (Rh d hd) ae rfl ?_;simp only[go_sem])
 |(refine ak.one (RV e0 (hlen e0 (List.mem_of_getElem? he0))) ae rfl ?_;simp only[go_sem])
 |(refine ak.one ((hask g e0 h2 (List.mem_of_getElem? he0) af).1) ae rfl ?_;simp only[go_sem])
 |((with_reducible refine And.intro ?_ ?_);(focus((simp;done)));(try simp only[hb,go_sem]))
 |(
  refine aa.here 8 43 1 rfl ?_
  refine aa.dT (ι:=Nat×Gt) [14,15,16,17,18,43,44,45,46,47,48,49,50,51,52,53,54,55,56,57,58,59,60,61,62,63] (fun⟨i,g⟩=>[(42,i64 i)]) (fun⟨i,g⟩=>[some [cH d],some [ln],some [bK g],some [ga (Kp.bP d).1]]) (fun⟨i,g⟩=>[]) (fun⟨i,g⟩=>i≤(Kp.bP d).2.2.1.length∧P g∧Kp.eb ask (cA n p).1 (Kp.bP d).2.2.1=Kp.eb ask g ((Kp.bP d).2.2.1.drop i)) (fun⟨i,g⟩=>(Kp.bP d).2.2.1.length-i) ((0,(cA n p).1)) ?_ ?_ ?_
  ·(try simp only[go_sem]);(try simp only[go_sem]);(try rw[aM ab ab]);(repeat'(first|refine And.intro ?_ ?_|exact gT|exact rG|exact qP|exact zA))
  ·exact⟨by omega,h0 af,rfl⟩
  rintro⟨i,g⟩ ⟨h1,h2,h3⟩
  simp only[go_sem])
 |(
  refine⟨(i+1,(ask g (dt e0).1).1),?_,?_,?_⟩
  ·(try simp only[go_sem]);(try rw[aM ab ab]);(try simp only[go_sem]);(try rw[aM ab ab]);(repeat'(first|refine And.intro ?_ ?_|exact gT|exact rG|exact qP|exact zA|exact .inr rfl))
  ·exact⟨by show i+1≤_;omega,(hask g e0 h2 (List.mem_of_getElem? he0) af).2 af,VJ h3 he0 af af⟩
  ·(try simp only[]);omega)
 |(
  refine aa.ret ?_
  refine aN.is ?_;simp only[go_sem,aI,aH,aG,aK,aJ,aL]<;>(first|(rw[Wg af];(simp only[go_sem,aI,aH,aG,aK,aJ,aL]<;>first|fail))|(rw[Wh af af];(simp only[go_sem,aI,aH,aG,aK,aJ,aL]<;>first|fail))|(rw[oA af af (tf h3 ab)];(simp only[go_sem,aI,aH,aG,aK,aJ,aL]<;>first|fail))|(rw[oA af af (VL h3 he0 af)];(simp only[go_sem,aI,aH,aG,aK,aJ,aL]<;>first|fail))|(rw[oA af af (VH h3 he0 af af)];(simp only[go_sem,aI,aH,aG,aK,aJ,aL]<;>first|fail))))
 |refine aa.fin af ?_)
theorem _root_.Go.az.ai.pw{E:Env}{f:FuncId}{args args2:List AV}{R:AV→List Nat→Prop}(h:ai E f args R)(hp:∀im vs,jl im args2 vs→jl im args vs):ai E f args2 R:=fun w im vs a b c d=>h w im vs a b c (hp im vs d)
theorem Uf{im:Im}{v:Value}(h:aS im (.agg [.aw,.aw,.aw,.aw]) v):aS im (cH Kp.eF) v:=by
 cases h with
 |agg cs vs hn hp=>
  refine .agg _ vs hn fun i c u hc hu=>?_
  match i with
  |0=>cases hc;have:=hp 0 _ u rfl hu;cases this;exact .di 1 none 0
  |1=>cases hc;have:=hp 1 _ u rfl hu;cases this;exact .di 1 none 0
  |2=>cases hc;have:=hp 2 _ u rfl hu;cases this;exact .di 1 none 0
  |3=>cases hc;have:=hp 3 _ u rfl hu;cases this;exact .di 1 none 0
  |i+4=>simp at hc
theorem RU(ask:Gt→Ak→Gt×Int×Int)(n p:Int):ai E 18 [i64 n,i64 p,.agg [.aw,.aw,.aw,.aw]] (fun r t=>r=kT ask n p Kp.eF∧t=[]):=by
 have he:(Kp.bP Kp.eF).2.2.1=[]:=by rw[Kp.ov]
 have h:=vC ask (fun _=>True) n p Kp.eF ⟨by decide,by decide,by decide,by decide⟩ (fun _=>trivial) (by rw[he];decide) (by rw[he];intro b hb;simp at hb) (by rw[he];intro g b _ hb;simp at hb)
 refine h.pw fun im vs ⟨hn,h⟩=>⟨hn,fun i a v ha hv=>?_⟩
 match i with
 |0=>exact h 0 a v ha hv
 |1=>exact h 1 a v ha hv
 |2=>cases ha;exact Uf (h 2 _ v rfl hv)
 |i+3=>simp at ha
theorem Ab(n p:Int)(h:(cA n p).2=0):ai E 13 [i64 n,i64 p] (fun r t=>r= .ax [fH n p ⟨(Kp.bP Kp.eF).1,(cA n p).1⟩,i64 0]∧t=[]):=by
 have hc:=RU dY n p
 rw[oA h (by rw[Kp.ov]) (show Kp.eb dY (cA n p).1 (Kp.bP Kp.eF).2.2.1=(cA n p).1 by rw[Kp.ov];rfl)] at hc
 refine ai.aC (n:=12) (rs:=[.cell 4 57,.tmp 5]) Tryz.func13 rfl Tryz.ntmps13 rfl ?_
 repeat'(first
 |refine aa.ah fun K hK=>?_
 |(refine aa.region ?_;simp only[go_sem])
 |(refine hK _ ?_;clear hK K)
 |(refine ak.one (hc) ae rfl ?_;simp only[go_sem])
 |(
  refine aa.ret ?_
  refine aN.is ?_;simp only[go_sem,aI,aH,aG,aK,aJ,aL]<;>(first|fail)))
theorem Tg{x y:Lm}(h:x.acc=y.acc∧x.sym=y.sym∧x.long=y.long∧x.short=y.short∧x.au=y.au∧x.value=y.value):x=y:=by
 obtain⟨a,b,c,d,e,f⟩:=x
 obtain⟨h1,h2,h3,h4,h5,h6⟩:=h
 dsimp only at *
 subst h1;subst h2;subst h3;subst h4;subst h5;subst h6;rfl
theorem Am{x y:Lm}(h:x.acc=y.acc→x.sym=y.sym→x.long=y.long→x.short=y.short→x.au=y.au→¬x.value=y.value):x≠y:=by
 rintro rfl;exact h rfl rfl rfl rfl rfl rfl
instance decVn:DecidableEq Vn:=fun a b=>decidable_of_iff (a.book=b.book∧a.aF=b.aF∧a.last=b.last∧a.bp=b.bp) (by cases a;cases b;simp)
instance decGt:DecidableEq Gt:=fun a b=>decidable_of_iff (a.an=b.an∧a.aY=b.aY∧a.kill=b.kill∧a.now=b.now∧a.pat=b.pat) (by cases a;cases b;simp)
theorem XD(p q:Vn):decide (p=q)=(decide (p.book=q.book)&&decide (p.aF=q.aF)&&decide (p.last=q.last)&&decide (p.bp=q.bp)):=by
 obtain⟨a,b,c,d⟩:=p
 obtain⟨a',b',c',d'⟩:=q
 rw[Bool.eq_iff_iff];simp[and_assoc]
theorem XB(p q:Gt):decide (p=q)=(decide (p.an=q.an)&&decide (p.aY=q.aY)&&decide (p.kill=q.kill)&&decide (p.now=q.now)&&decide (p.pat=q.pat)):=by
 obtain⟨a,b,c,d,e⟩:=p
 obtain⟨a',b',c',d',e'⟩:=q
 rw[Bool.eq_iff_iff];simp[and_assoc]
theorem Ac(p q:List Od)(hl:p.length≤9223372036854775807):ai E 110 [bz p,bz q] (fun r t=>r=bl (decide (p=q))∧t=[]):=by
 refine ai.aC (n:=26) (rs:=[.tmp 4]) Tryz.func110 rfl Tryz.ntmps110 rfl ?_
 repeat'(first
 |refine aa.ah fun K hK=>?_
 |(refine aa.region ?_;simp only[go_sem])
 |(refine aa.here 6 16 9 rfl ?_;refine aa.bB [0,1,2,3,4,5,6,7,8] [] ae ae rfl ?_;simp only[go_sem])
 |(refine hK _ ?_;clear hK K)
 |refine aa.block ?_
 |refine aa.cond rfl (fun c=>?_) (fun c=>?_)<;>(try simp only[dD] at c)
 |refine aa.skip ?_
 |(refine aa.exit ?_;simp only[go_sem])
 |((first|refine aQ.nth ?_ (fun b hb=>?_)|with_reducible refine And.intro ?_ ?_);(focus(first|omega|(simp;done)));(try simp only[hb,go_sem]))
 |(
  refine aa.here 4 14 1 rfl ?_
  refine aa.dU (ι:=Nat) [4,5,14,15,16,17,18,19,20,21,22,23,24,25] (fun(i:Nat)=>[(13,i64 i)]) (fun(i:Nat)=>i≤p.length∧p.length=q.length∧p.take i=q.take i) (fun(i:Nat)=>p.length-i) (0) ?_ ?_ ?_
  ·(try simp only[go_sem]);(repeat'(first|fail));done
  ·exact⟨by omega,by omega,by simp⟩
  rintro i ⟨h1,h2,h3⟩
  simp only[go_sem])
 |(
  refine⟨i+1,?_,?_,?_⟩
  ·(try simp only[go_sem]);(try rw[aM ab ab]);(repeat'(exact .inr rfl));done
  ·exact⟨by omega,by omega,mD (a:=p) (b:=q) af af (by exact AW af) h3⟩
  ·(try simp only[]);omega)
 |(
  refine aa.ret ?_
  refine aN.is ?_;simp only[go_sem,aI,aH,aG,aK,aJ,aL]<;>(first
  |(rw[mE ab];done)
  |(rw[mF (a:=p) (b:=q) af af (by exact AX af)];done)
  |(rw[mG h2 ab h3];done)))
 |refine aa.fin af ?_)
theorem Rq(p q:List Dn)(hl:p.length≤9223372036854775807):ai E 153 [dp p,dp q] (fun r t=>r=bl (decide (p=q))∧t=[]):=by
 refine ai.aC (n:=26) (rs:=[.tmp 4]) Tryz.func153 rfl Tryz.ntmps153 rfl ?_
 repeat'(first
 |refine aa.ah fun K hK=>?_
 |(refine aa.region ?_;simp only[go_sem])
 |(refine aa.here 6 16 9 rfl ?_;refine aa.bB [0,1,2,3,4,5,6,7,8] [] ae ae rfl ?_;simp only[go_sem])
 |(refine hK _ ?_;clear hK K)
 |refine aa.block ?_
 |refine aa.cond rfl (fun c=>?_) (fun c=>?_)<;>(try simp only[dD] at c)
 |refine aa.skip ?_
 |(refine aa.exit ?_;simp only[go_sem])
 |((first|refine aQ.nth ?_ (fun b hb=>?_)|with_reducible refine And.intro ?_ ?_);(focus(first|omega|(simp;done)));(try simp only[hb,go_sem]))
 |(
  refine aa.here 4 14 1 rfl ?_
  refine aa.dU (ι:=Nat) [4,5,14,15,16,17,18,19,20,21,22,23,24,25] (fun(i:Nat)=>[(13,i64 i)]) (fun(i:Nat)=>i≤p.length∧p.length=q.length∧p.take i=q.take i) (fun(i:Nat)=>p.length-i) (0) ?_ ?_ ?_
  ·(try simp only[go_sem]);(repeat'(first|fail));done
  ·exact⟨by omega,by omega,by simp⟩
  rintro i ⟨h1,h2,h3⟩
  simp only[go_sem])
 |(
  refine⟨i+1,?_,?_,?_⟩
  ·(try simp only[go_sem]);(try rw[aM ab ab]);(repeat'(exact .inr rfl));done
  ·exact⟨by omega,by omega,mD (a:=p) (b:=q) af af (by exact yN af) h3⟩
  ·(try simp only[]);omega)
 |(
  refine aa.ret ?_
  refine aN.is ?_;simp only[go_sem,aI,aH,aG,aK,aJ,aL]<;>(first
  |(rw[mE ab];done)
  |(rw[mF (a:=p) (b:=q) af af (by exact yP af)];done)
  |(rw[mG h2 ab h3];done)))
 |refine aa.fin af ?_)
theorem RZ(p q:List Bs)(hl:p.length≤9223372036854775807):ai E 154 [.sl none 1 (p.map str),.sl none 1 (q.map str)] (fun r t=>r=bl (decide (p=q))∧t=[]):=by
 refine ai.aC (n:=26) (rs:=[.tmp 4]) Tryz.func154 rfl Tryz.ntmps154 rfl ?_
 repeat'(first
 |refine aa.ah fun K hK=>?_
 |(refine aa.region ?_;simp only[go_sem])
 |(refine aa.here 6 16 9 rfl ?_;refine aa.bB [0,1,2,3,4,5,6,7,8] [] ae ae rfl ?_;simp only[go_sem])
 |(refine hK _ ?_;clear hK K)
 |refine aa.block ?_
 |refine aa.cond rfl (fun c=>?_) (fun c=>?_)<;>(try simp only[dD] at c)
 |refine aa.skip ?_
 |(refine aa.exit ?_;simp only[go_sem])
 |((first|refine aQ.nth ?_ (fun b hb=>?_)|with_reducible refine And.intro ?_ ?_);(focus(first|omega|(simp;done)));(try simp only[hb,go_sem]))
 |(
  refine aa.here 4 14 1 rfl ?_
  refine aa.dU (ι:=Nat) [4,5,14,15,16,17,18,19,20,21,22,23,24,25] (fun(i:Nat)=>[(13,i64 i)]) (fun(i:Nat)=>i≤p.length∧p.length=q.length∧p.take i=q.take i) (fun(i:Nat)=>p.length-i) (0) ?_ ?_ ?_
  ·(try simp only[go_sem]);(repeat'(first|fail));done
  ·exact⟨by omega,by omega,by simp⟩
  rintro i ⟨h1,h2,h3⟩
  simp only[go_sem])
 |(
  refine⟨i+1,?_,?_,?_⟩
  ·(try simp only[go_sem]);(try rw[aM ab ab]);(repeat'(exact .inr rfl));done
  ·exact⟨by omega,by omega,mD (a:=p) (b:=q) af af af h3⟩
  ·(try simp only[]);omega)
 |(
  refine aa.ret ?_
  refine aN.is ?_;simp only[go_sem,aI,aH,aG,aK,aJ,aL]<;>(first
  |(rw[mE ab];done)
  |(rw[mF (a:=p) (b:=q) af af af];done)
  |(rw[mG h2 ab h3];done)))
 |refine aa.fin af ?_)
theorem RG(p q:List Lm)(hl:p.length≤9223372036854775807):ai E 52 [ct p,ct q] (fun r t=>r=bl (decide (p=q))∧t=[]):=by
 refine ai.aC (n:=26) (rs:=[.tmp 4]) Tryz.func52 rfl Tryz.ntmps52 rfl ?_
 repeat'(first
 |refine aa.ah fun K hK=>?_
 |(refine aa.region ?_;simp only[go_sem])
 |(refine aa.here 6 16 9 rfl ?_;refine aa.bB [0,1,2,3,4,5,6,7,8] [] ae ae rfl ?_;simp only[go_sem])
 |(refine hK _ ?_;clear hK K)
 |refine aa.block ?_
 |refine aa.cond rfl (fun c=>?_) (fun c=>?_)<;>(try simp only[dD] at c)
 |refine aa.skip ?_
 |(refine aa.exit ?_;simp only[go_sem])
 |((first|refine aQ.nth ?_ (fun b hb=>?_)|with_reducible refine And.intro ?_ ?_);(focus(first|omega|(simp;done)));(try simp only[hb,go_sem]))
 |(
  refine aa.here 4 14 1 rfl ?_
  refine aa.dU (ι:=Nat) [4,5,14,15,16,17,18,19,20,21,22,23,24,25] (fun(i:Nat)=>[(13,i64 i)]) (fun(i:Nat)=>i≤p.length∧p.length=q.length∧p.take i=q.take i) (fun(i:Nat)=>p.length-i) (0) ?_ ?_ ?_
  ·(try simp only[go_sem]);(repeat'(first|fail));done
  ·exact⟨by omega,by omega,by simp⟩
  rintro i ⟨h1,h2,h3⟩
  simp only[go_sem])
 |(
  refine⟨i+1,?_,?_,?_⟩
  ·(try simp only[go_sem]);(try rw[aM ab ab]);(repeat'(exact .inr rfl));done
  ·exact⟨by omega,by omega,mD (a:=p) (b:=q) af af (by exact Tg af) h3⟩
  ·(try simp only[]);omega)
 |(
  refine aa.ret ?_
  refine aN.is ?_;simp only[go_sem,aI,aH,aG,aK,aJ,aL]<;>(first
  |(rw[mE ab];done)
  |(rw[mF (a:=p) (b:=q) af af (by exact Am af)];done)
  |(rw[mG h2 ab h3];done)))
 |refine aa.fin af ?_)
theorem RY(a q:Bk)(h1:a.aq.length≤1000000)(h2:a.av.length≤1000000)(h3:a.ids.length≤1000000):ai E 109 [.agg [bz a.aq,dp a.av,.sl none 1 (a.ids.map str),i64 a.clock,i64 a.bad],.agg [bz q.aq,dp q.av,.sl none 1 (q.ids.map str),i64 q.clock,i64 q.bad]] (fun r t=>r=bl (decide (a=q))∧t=[]):=by
 refine ai.aC (n:=38) (rs:=[.tmp 4]) Tryz.func109 rfl Tryz.ntmps109 rfl ?_
 repeat'(first
 |refine aa.ah fun K hK=>?_
 |(refine aa.region ?_;simp only[go_sem])
 |(refine hK _ ?_;clear hK K)
 |(refine ak.one (Ac a.aq q.aq ab) ae rfl ?_;simp only[go_sem])
 |(refine ak.one (Rq a.av q.av ab) ae rfl ?_;simp only[go_sem])
 |(refine ak.one (RZ a.ids q.ids ab) ae rfl ?_;simp only[go_sem])
 |(refine aP.split (fun h=>?_) (fun h=>?_)<;>simp only[h,go_sem]<;>(try simp only[dD] at h))
 |(
  refine aa.ret ?_
  refine aN.is ?_;simp only[go_sem,aI,aH,aG,aK,aJ,aL]<;>((rw[oF];simp[*];done))))
theorem R0(v w:Vn)(hv:oV v):ai E 51 [aO v,aO w] (fun r t=>r=bl (decide (v=w))∧t=[]):=by
 refine ai.aC (n:=31) (rs:=[.tmp 4]) Tryz.func51 rfl Tryz.ntmps51 rfl ?_
 repeat'(first
 |refine aa.ah fun K hK=>?_
 |(refine aa.region ?_;simp only[go_sem])
 |(refine hK _ ?_;clear hK K)
 |(refine ak.one (RY v.book w.book hv.1 hv.2.1 hv.2.2.1) ae rfl ?_;simp only[go_sem])
 |(refine ak.one (Ac v.aF w.aF (by have:=hv.2.2.2;omega)) ae rfl ?_;simp only[go_sem])
 |(refine aP.split (fun h=>?_) (fun h=>?_)<;>simp only[h,go_sem]<;>(try simp only[dD] at h))
 |(
  refine aa.ret ?_
  refine aN.is ?_;simp only[go_sem,aI,aH,aG,aK,aJ,aL]<;>((rw[XD];simp[*];done))))
theorem Rv(p q:List Vn)(hl:p.length≤1000000)(hp:∀v∈p,oV v):ai E 50 [fe p,fe q,.fn 51 []] (fun r t=>r=bl (decide (p=q))∧t=[]):=by
 refine ai.aC (n:=32) (rs:=[.tmp 6]) Tryz.func50 rfl Tryz.ntmps50 rfl ?_
 repeat'(first
 |refine aa.ah fun K hK=>?_
 |(
  refine aa.here 5 19 6 rfl ?_
  obtain⟨e1,he1⟩:∃v,p[i]?=some v:=⟨_,List.getElem?_eq_getElem ab⟩
  obtain⟨e2,he2⟩:∃v,q[i]?=some v:=⟨_,List.getElem?_eq_getElem ab⟩
  refine aa.region ?_;simp only[go_sem,List.getElem?_map,he1,Option.map_some])
 |(
  refine aa.here 6 22 6 rfl ?_
  refine aa.region ?_;simp only[go_sem,List.getElem?_map,he2,Option.map_some])
 |(refine aa.region ?_;simp only[go_sem])
 |(refine hK _ ?_;clear hK K)
 |refine aa.block ?_
 |refine aa.cond rfl (fun c=>?_) (fun c=>?_)<;>(try simp only[dD] at c)
 |refine aa.skip ?_
 |(refine aa.exit ?_;simp only[go_sem])
 |(refine ak.one (R0 e1 e2 (hp e1 (List.mem_of_getElem? he1))) ae rfl ?_;simp only[go_sem])
 |((with_reducible refine And.intro ?_ ?_);(focus((simp;done)));(try simp only[hb,go_sem]))
 |(
  refine aa.here 4 18 1 rfl ?_
  refine aa.dU (ι:=Nat) [6,7,8,9,18,19,20,21,22,23,24,25,26,27,28,29,30,31] (fun(i:Nat)=>[(17,i64 i)]) (fun(i:Nat)=>i≤p.length∧p.length=q.length∧p.take i=q.take i) (fun(i:Nat)=>p.length-i) (0) ?_ ?_ ?_
  ·(try simp only[go_sem]);(repeat'(first|fail));done
  ·exact⟨by omega,by omega,by simp⟩
  rintro i ⟨h1,h2,h3⟩
  simp only[go_sem])
 |(
  refine⟨i+1,?_,?_,?_⟩
  ·(try simp only[go_sem]);(try rw[aM ab ab]);(repeat'(exact .inr rfl));done
  ·exact⟨by omega,by omega,mD (a:=p) (b:=q) he1 he2 af h3⟩
  ·(try simp only[]);omega)
 |(
  refine aa.ret ?_
  refine aN.is ?_;simp only[go_sem,aI,aH,aG,aK,aJ,aL]<;>(first|(rw[mE ab];done)|(rw[mF (a:=p) (b:=q) he1 he2 af];done)|(rw[mG h2 ab h3];done)))
 |refine aa.fin af ?_)
theorem RX(a q:Gt)(ha:dn a):ai E 23 [bK a,bK q] (fun r t=>r=bl (decide (a=q))∧t=[]):=by
 refine ai.aC (n:=38) (rs:=[.tmp 4]) Tryz.func23 rfl Tryz.ntmps23 rfl ?_
 repeat'(first
 |refine aa.ah fun K hK=>?_
 |(refine aa.region ?_;simp only[go_sem])
 |(refine hK _ ?_;clear hK K)
 |(refine ak.one (Rv a.an q.an ha.1 ha.2.2) ae rfl ?_;simp only[go_sem])
 |(refine ak.one (RG a.aY q.aY (by have:=ha.2.1;omega)) ae rfl ?_;simp only[go_sem])
 |(refine aP.split (fun h=>?_) (fun h=>?_)<;>simp only[h,go_sem]<;>(try simp only[dD] at h))
 |(
  refine aa.ret ?_
  refine aN.is ?_;simp only[go_sem,aI,aH,aG,aK,aJ,aL]<;>((rw[XB];simp[*];done))))
end Go.Proofs.YthoonfpkfdjhiaaGreatDoor
end
section
namespace Go.Proofs.YthoonfpkfdjhiaaGreatDoor
open Go Go.az Go.RowKit Go.Bk
theorem BH(p q:List Od)(hl:p.length≤9223372036854775807):ai E 44 [bz p,bz q] (fun r t=>r=bl (decide (p=q))∧t=[]):=by
 refine ai.aC (n:=26) (rs:=[.tmp 4]) Tryz.func44 rfl Tryz.ntmps44 rfl ?_
 repeat'(first
 |refine aa.ah fun K hK=>?_
 |(refine aa.region ?_;simp only[go_sem])
 |(refine aa.here 6 17 9 rfl ?_;refine aa.bB [0,1,2,3,4,5,6,7,8] [] ae ae rfl ?_;simp only[go_sem])
 |(refine hK _ ?_;clear hK K)
 |refine aa.block ?_
 |refine aa.cond rfl (fun c=>?_) (fun c=>?_)<;>(try simp only[dD] at c)
 |refine aa.skip ?_
 |(refine aa.exit ?_;simp only[go_sem])
 |((first|refine aQ.nth ?_ (fun b hb=>?_)|with_reducible refine And.intro ?_ ?_);(focus(first|omega|(simp;done)));(try simp only[hb,go_sem]))
 |(
  refine aa.here 4 11 4 rfl ?_
  refine aa.dU (ι:=Nat) [4,11,12,13,14,15,16,17,18,19,20,21,22,23,24,25] (fun(i:Nat)=>[(5,i64 i)]) (fun(i:Nat)=>i≤p.length∧p.length=q.length∧p.take i=q.take i) (fun(i:Nat)=>p.length-i) (0) ?_ ?_ ?_
  ·(try simp only[go_sem]);(repeat'(first|fail));done
  ·exact⟨by omega,by omega,by simp⟩
  rintro i ⟨h1,h2,h3⟩
  simp only[go_sem])
 |(
  refine⟨i+1,?_,?_,?_⟩
  ·(try simp only[go_sem]);(try rw[aM ab ab]);(repeat'(exact .inr rfl));done
  ·exact⟨by omega,by omega,mD (a:=p) (b:=q) af af (by exact AW af) h3⟩
  ·(try simp only[]);omega)
 |(
  refine aa.ret ?_
  refine aN.is ?_;simp only[go_sem,aI,aH,aG,aK,aJ,aL]<;>(first
  |(rw[mE ab];done)
  |(rw[mF (a:=p) (b:=q) af af (by exact AX af)];done)
  |(rw[mG h2 ab h3];done)))
 |refine aa.fin af ?_)
theorem V7(p q:Bk)(ho:p.aq.length≤9223372036854775807)(hf:p.av.length≤9223372036854775807)(hi:p.ids.length≤9223372036854775807):ai E 43 [lD p,lD q] (fun r t=>r=bl (decide (p=q))∧t=[]):=by
 refine ai.aC (n:=81) (rs:=[.tmp 4]) Tryz.func43 rfl Tryz.ntmps43 rfl ?_
 repeat'(first
 |refine aa.ah fun K hK=>?_
 |(refine aa.region ?_;simp only[go_sem])
 |(refine aa.here 6 52 11 rfl ?_;refine aa.bB [0,1,2,3,4,5,6,7,8,9,10] [] ae ae rfl ?_;simp only[go_sem])
 |(refine aa.here 11 70 11 rfl ?_;refine aa.bB [0,1,2,3,4,5,6,7,8,9,10] [] ae ae rfl ?_;simp only[go_sem])
 |(refine hK _ ?_;clear hK K)
 |refine aa.block ?_
 |refine aa.cond rfl (fun c=>?_) (fun c=>?_)<;>first|exact Bool.noConfusion c|(try simp only[dD] at c)
 |refine aa.skip ?_
 |(refine aa.exit ?_;simp only[go_sem])
 |(refine ak.one (BH p.aq q.aq ho) ae rfl ?_;simp only[go_sem])
 |(refine aP.split (fun h=>?_) (fun h=>?_)<;>simp only[h,go_sem]<;>(try simp only[dD] at h))
 |((first|refine aQ.nth ?_ (fun b hb=>?_)|with_reducible refine And.intro ?_ ?_);(focus(first|omega|(simp;done)));(try simp only[hb,go_sem]))
 |(
  refine aa.here 4 45 5 rfl ?_
  refine aa.dT (ι:=Nat) [4,45,46,47,48,49,50,51,52,53,54,55,56,57,58,59,60,61,62] (fun(i:Nat)=>[(5,i64 i)]) (fun(i:Nat)=>[some [.agg [bz p.aq,dp p.av,.sl none 1 (p.ids.map str),i64 p.clock,i64 p.bad]],some [.agg [bz q.aq,dp q.av,.sl none 1 (q.ids.map str),i64 q.clock,i64 q.bad]]]) (fun(i:Nat)=>[]) (fun(i:Nat)=>i≤p.av.length∧p.av.length=q.av.length∧p.av.take i=q.av.take i) (fun(i:Nat)=>p.av.length-i) (0) ?_ ?_ ?_
  ·(try simp only[go_sem]);(repeat'(first|refine And.intro ?_ ?_|exact .inr (bm rfl)));done
  ·exact⟨by omega,by omega,by simp⟩
  rintro i ⟨h1,h2,h3⟩
  simp only[go_sem])
 |(
  refine aa.here 9 63 5 rfl ?_
  refine aa.dT (ι:=Nat) [4,63,64,65,66,67,68,69,70,71,72,73,74,75,76,77,78,79,80] (fun(i:Nat)=>[(6,i64 i)]) (fun(i:Nat)=>[some [.agg [bz p.aq,dp p.av,.sl none 1 (p.ids.map str),i64 p.clock,i64 p.bad]],some [.agg [bz q.aq,dp q.av,.sl none 1 (q.ids.map str),i64 q.clock,i64 q.bad]]]) (fun(i:Nat)=>[]) (fun(i:Nat)=>i≤p.ids.length∧p.ids.length=q.ids.length∧p.ids.take i=q.ids.take i) (fun(i:Nat)=>p.ids.length-i) (0) ?_ ?_ ?_
  ·(try simp only[go_sem]);(repeat'(first|refine And.intro ?_ ?_|exact .inr (bm rfl)));done
  ·exact⟨by omega,by omega,by simp⟩
  rintro i ⟨g1,g2,g3⟩
  simp only[go_sem])
 |(
  refine⟨i+1,?_,?_,?_⟩
  ·(try simp only[go_sem]);(try rw[aM ab ab]);(repeat'(first|refine And.intro ?_ ?_|exact .inr rfl|exact .inr (bm rfl)));done
  ·exact⟨by omega,by omega,mD (a:=p.av) (b:=q.av) af af (by exact yN af) h3⟩
  ·(try simp only[]);omega)
 |(
  refine⟨i+1,?_,?_,?_⟩
  ·(try simp only[go_sem]);(try rw[aM ab ab]);(repeat'(first|refine And.intro ?_ ?_|exact .inr rfl|exact .inr (bm rfl)));done
  ·exact⟨by omega,by omega,mD (a:=p.ids) (b:=q.ids) af af af g3⟩
  ·(try simp only[]);omega)
 |(
  refine aa.ret ?_
  refine aN.is ?_;simp only[go_sem,aI,aH,aG,aK,aJ,aL]<;>(first
  |(rw[oF];simp[*];done)
  |(rw[oF,mE (a:=p.av) ab];simp;done)
  |(rw[oF,mE (a:=p.ids) ab];simp;done)
  |(rw[oF,mF (a:=p.av) (b:=q.av) af af (by exact yP af)];simp;done)
  |(rw[oF,mF (a:=p.ids) (b:=q.ids) af af af];simp;done)
  |(rw[oF,mG h2 ab h3,mG g2 ab g3];simp[*];done)))
 |refine aa.fin af ?_)
theorem Mj{α:Type}[DecidableEq α]{a b:List α}(h:¬a.length=b.length):decide (a=b)=false:=decide_eq_false fun e=>h (by rw[e])
theorem Mk{α:Type}[DecidableEq α]{a b:List α}{i:Nat}{x y:α}(h1:a[i]?=some x)(h2:b[i]?=some y)(h:x≠y):decide (a=b)=false:=decide_eq_false fun e=>h (by rw[e,h2,Option.some.injEq] at h1;exact h1.symm)
theorem Ml{α:Type}[DecidableEq α]{a b:List α}{i:Nat}(h0:a.length=b.length)(hi:a.length≤i)(h:a.take i=b.take i):decide (a=b)=true:=by
 rw[List.take_of_length_le hi,List.take_of_length_le ab] at h
 exact decide_eq_true h
theorem y4{α:Type}{a b:List α}{i:Nat}{x y:α}(h1:a[i]?=some x)(h2:b[i]?=some y)(h:x=y)(h3:a.take i=b.take i):a.take (i+1)=b.take (i+1):=by
 rw[List.take_add_one,List.take_add_one,h1,h2,h3,h]
theorem Th{x y:Lm}(h:x.acc=y.acc∧x.sym=y.sym∧x.long=y.long∧x.short=y.short∧x.au=y.au∧x.value=y.value):x=y:=by
 cases x;cases y;simp only at h;obtain⟨rfl,rfl,rfl,rfl,rfl,rfl⟩:=h;rfl
theorem V8(p q:List Lm)(hl:p.length≤9223372036854775807):ai E 42 [ct p,ct q] (fun r t=>r=bl (decide (p=q))∧t=[]):=by
 refine ai.aC (n:=26) (rs:=[.tmp 4]) Tryz.func42 rfl Tryz.ntmps42 rfl ?_
 repeat'(first
 |refine aa.ah fun K hK=>?_
 |(
  refine aa.here 6 17 9 rfl ?_
  obtain⟨x,hx⟩:∃x,p[i]?=some x:=⟨_,List.getElem?_eq_getElem ab⟩
  obtain⟨y,hy⟩:∃y,q[i]?=some y:=⟨_,List.getElem?_eq_getElem ab⟩
  refine aa.bB [0,1,2,3,4,5,6,7,8] [] ae ae rfl ?_;simp only[go_sem])
 |(refine aa.region ?_;simp only[go_sem])
 |(refine hK _ ?_;clear hK K)
 |refine aa.block ?_
 |refine aa.cond rfl (fun c=>?_) (fun c=>?_)<;>(try simp only[dD] at c)
 |refine aa.skip ?_
 |(refine aa.exit ?_;simp only[go_sem])
 |(refine aQ.ez af ?_;(try simp only[go_sem]))
 |((with_reducible refine And.intro ?_ ?_);(focus((simp;done)));(try simp only[hb,go_sem]))
 |(
  refine aa.here 4 11 4 rfl ?_
  refine aa.dU (ι:=Nat) [4,11,12,13,14,15,16,17,18,19,20,21,22,23,24,25] (fun(i:Nat)=>[(5,i64 i)]) (fun(i:Nat)=>i≤p.length∧p.length=q.length∧p.take i=q.take i) (fun(i:Nat)=>p.length-i) (0) ?_ ?_ ?_
  ·(try simp only[go_sem]);(repeat'(first|fail));done
  ·exact⟨by omega,by omega,by simp⟩
  rintro i ⟨h1,h2,h3⟩
  simp only[go_sem])
 |(
  refine⟨i+1,?_,?_,?_⟩
  ·(try simp only[go_sem]);(try rw[aM ab ab]);(repeat'(exact .inr rfl));done
  ·exact⟨by omega,by omega,y4 hx hy (by simpa using Th af) h3⟩
  ·(try simp only[]);omega)
 |(
  refine aa.ret ?_
  refine aN.is ?_;simp only[go_sem,aI,aH,aG,aK,aJ,aL]<;>(first|(rw[Mj ab];done)|(rw[Mk hx hy (Am af)];done)|(rw[Ml h2 ab h3];done)))
 |refine aa.fin af ?_)
section
variable{a b:Gt}
theorem abo{x y:Vn}(h1:x.book=y.book)(h2:x.aF=y.aF)(h3:x.last=y.last)(h4:x.bp=y.bp):x=y:=by cases x;cases y;simp only at h1 h2 h3 h4;subst h1;subst h2;subst h3;subst h4;rfl
theorem Qe(h:¬a.an.length=b.an.length):decide (a=b)=false:=decide_eq_false fun e=>h (by rw[e])
theorem Qf(h:¬a.aY=b.aY):decide (a=b)=false:=decide_eq_false fun e=>h (by rw[e])
theorem Qg(h:¬a.kill=b.kill):decide (a=b)=false:=decide_eq_false fun e=>h (by rw[e])
theorem Qh(h:¬a.now=b.now):decide (a=b)=false:=decide_eq_false fun e=>h (by rw[e])
theorem Qi(h:¬a.pat=b.pat):decide (a=b)=false:=decide_eq_false fun e=>h (by rw[e])
theorem sG{i:Nat}{x y:Vn}(hx:a.an[i]?=some x)(hy:b.an[i]?=some y)(h:¬x.book=y.book∨¬x.aF=y.aF∨¬x.last=y.last∨¬x.bp=y.bp):decide (a=b)=false:=decide_eq_false fun e=>by
 rw[e,hy] at hx;cases hx;simp at h
theorem Qj{i:Nat}(h0:a.an.length=b.an.length)(hi:a.an.length≤i)(h:a.an.take i=b.an.take i)(h1:a.aY=b.aY)(h2:a.kill=b.kill)(h3:a.now=b.now)(h4:a.pat=b.pat):decide (a=b)=true:=by
 rw[List.take_of_length_le hi,List.take_of_length_le ab] at h
 apply decide_eq_true
 cases a;cases b;simp only at h h1 h2 h3 h4;subst h;subst h1;subst h2;subst h3;subst h4;rfl
end
theorem ri(a b:Gt)(ha:oS a):ai E 17 [bK a,bK b] (fun r t=>r=bl (decide (a=b))∧t=[]):=by
 have ha1:=ha.1
 have ha2:=ha.2.1
 refine ai.aC (n:=89) (rs:=[.tmp 4]) Tryz.func17 rfl Tryz.ntmps17 rfl ?_
 repeat'(first
 |refine aa.ah fun K hK=>?_
 |(
  refine aa.here 6 51 14 rfl ?_
  obtain⟨x,hx⟩:∃x,a.an[i]?=some x:=⟨_,List.getElem?_eq_getElem ab⟩
  obtain⟨y,hy⟩:∃y,b.an[i]?=some y:=⟨_,List.getElem?_eq_getElem ab⟩
  have hv:=ha.2.2 x (List.mem_of_getElem? hx)
  apply aa.oC (.take 0 (.take 1 (.take 2 (.take 3 (.take 4 (.take 5 (.take 7 (.fork (.alt 6 (.take 8 (.fork (.alt 9 (.take 10 (.take 11 (.take 12 (.take 13 .done)))) (.alt 10 (.fork (.alt 9 (.take 11 (.take 12 (.take 13 .done))) (.alt 11 (.fork (.alt 9 (.take 12 (.take 13 .done)) (.alt 12 (.take 9 (.take 13 .done)) .ends))) .ends))) (.alt 11 (.fork (.alt 9 (.take 10 (.take 12 (.take 13 .done))) (.alt 10 (.fork (.alt 9 (.take 12 (.take 13 .done)) (.alt 12 (.take 9 (.take 13 .done)) .ends))) .ends))) .ends))))) (.alt 10 (.fork (.alt 6 (.take 8 (.fork (.alt 9 (.take 11 (.take 12 (.take 13 .done))) (.alt 11 (.fork (.alt 9 (.take 12 (.take 13 .done)) (.alt 12 (.take 9 (.take 13 .done)) .ends))) .ends)))) (.alt 11 (.fork (.alt 6 (.take 8 (.fork (.alt 9 (.take 12 (.take 13 .done)) (.alt 12 (.take 9 (.take 13 .done)) .ends)))) (.alt 12 (.take 6 (.take 8 (.take 9 (.take 13 .done)))) .ends))) .ends))) (.alt 11 (.fork (.alt 6 (.take 8 (.fork (.alt 9 (.take 10 (.take 12 (.take 13 .done))) (.alt 10 (.fork (.alt 9 (.take 12 (.take 13 .done)) (.alt 12 (.take 9 (.take 13 .done)) .ends))) .ends)))) (.alt 10 (.fork (.alt 6 (.take 8 (.fork (.alt 9 (.take 12 (.take 13 .done)) (.alt 12 (.take 9 (.take 13 .done)) .ends)))) (.alt 12 (.take 6 (.take 8 (.take 9 (.take 13 .done)))) .ends))) .ends))) .ends))))))))))) [[],[0],[],[0,1,2],[0,1,2,3],[],[5],[],[5,6,7],[5,6,7,8],[],[],[0,1,2,3,4,10,11],[0,1,2,3,4,5,6,7,8,9,10,11,12]] [6,7] ae ae aj;simp only[go_sem])
 |(refine aa.region ?_;simp only[go_sem])
 |(refine hK _ ?_;clear hK K)
 |refine aa.block ?_
 |refine aa.cond rfl (fun c=>?_) (fun c=>?_)<;>first|exact Bool.noConfusion c|(try simp only[dD] at c)
 |refine aa.skip ?_
 |(refine aa.exit ?_;simp only[go_sem])
 |(refine ak.one (V8 a.aY b.aY ha2) ae rfl ?_;simp only[go_sem])
 |(refine ak.one (V7 x.book y.book hv.1 hv.2.1 hv.2.2.1) ae rfl ?_;simp only[go_sem])
 |(refine ak.one (BH x.aF y.aF hv.2.2.2) ae rfl ?_;simp only[go_sem])
 |(refine aP.split (fun h=>?_) (fun h=>?_)<;>simp only[h,go_sem]<;>(try simp only[dD] at h))
 |(refine aQ.ez af ?_;(try simp only[go_sem]))
 |((with_reducible refine And.intro ?_ ?_);(focus((simp;done)));(try simp only[hb,go_sem]))
 |exact rfl
 |(
  refine aa.here 4 44 5 rfl ?_
  refine aa.dT (ι:=Nat) [4,6,7,44,45,46,47,48,49,50,51,52,53,54,55,56,57,58,59,60,61,62,63,64,65,66,67,68,69,70,71,72,73,74,75,76,77,78,79,80,81,82,83,84,85,86,87,88] (fun(i:Nat)=>[(5,i64 i)]) (fun(i:Nat)=>[some [.agg [fe a.an,ct a.aY,bl a.kill,i64 a.now,i64 a.pat]],some [.agg [fe b.an,ct b.aY,bl b.kill,i64 b.now,i64 b.pat]]]) (fun(i:Nat)=>[]) (fun(i:Nat)=>i≤a.an.length∧a.an.length=b.an.length∧a.an.take i=b.an.take i) (fun(i:Nat)=>a.an.length-i) (0) ?_ ?_ ?_
  ·(try simp only[go_sem]);(repeat'(first|refine And.intro ?_ ?_|exact .inr (bm rfl)));done
  ·exact⟨by omega,by omega,by simp⟩
  rintro i ⟨h1,h2,h3⟩
  simp only[go_sem]
  have hlim:a.aY=b.aY:=af
  have hkil:a.kill=b.kill:=af
  have hnow:a.now=b.now:=af
  have hpat:a.pat=b.pat:=af)
 |(
  refine⟨i+1,?_,?_,?_⟩
  ·(try simp only[go_sem]);(try rw[aM ab ab]);(repeat'(first|refine And.intro ?_ ?_|exact .inr rfl|exact .inr (bm rfl)));done
  ·exact⟨by omega,by omega,y4 hx hy (abo af af af af) h3⟩
  ·(try simp only[]);omega)
 |(
  refine aa.ret ?_
  refine aN.is ?_;simp only[go_sem,aI,aH,aG,aK,aJ,aL]<;>(try((first|(rw[Qe ab];done)|(rw[Qf af];done)|(rw[Qg af];done)|(rw[Qh af];done)|(rw[Qi af];done)|(rw[sG hx hy (.inl af)];done)|(rw[sG hx hy (.inr (.inl af))];done)|(rw[sG hx hy (.inr (.inr (.inl af)))];done)|(rw[sG hx hy (.inr (.inr (.inr af)))];done)|(rw[Qj h2 ab h3 hlim hkil hnow hpat];done)))))
 |refine aa.fin af ?_)
end Go.Proofs.YthoonfpkfdjhiaaGreatDoor
end
section
namespace Go.Proofs.YthoonfpkfdjhiaaGreatDoor
open Go Go.az Go.RowKit Go.Bk Go.Msg Go.Txt
theorem y6{a b:Kp.Fi}(h1:a.safe=b.safe)(h2:a.tail=b.tail):a=b:=by cases a;cases b;simp only at h1 h2;subst h1;subst h2;rfl
theorem LY{d e:Kp.Dk}(h:¬d.f0.safe=e.f0.safe):decide (d=e)=false:=decide_eq_false fun x=>h (by rw[x])
theorem LZ{d e:Kp.Dk}(h:¬d.f0.tail=e.f0.tail):decide (d=e)=false:=decide_eq_false fun x=>h (by rw[x])
theorem L0{d e:Kp.Dk}(h:¬d.f1.safe=e.f1.safe):decide (d=e)=false:=decide_eq_false fun x=>h (by rw[x])
theorem L1{d e:Kp.Dk}(h:¬d.f1.tail=e.f1.tail):decide (d=e)=false:=decide_eq_false fun x=>h (by rw[x])
theorem LX{d e:Kp.Dk}(h1:d.f0=e.f0)(h2:d.f1=e.f1):d=e:=by cases d;cases e;simp only at h1 h2;subst h1;subst h2;rfl
theorem XC(a b:Kp.Jn):decide (a=b)=(decide (a.d=b.d)&&decide (a.at'=b.at')&&decide (a.gen=b.gen)):=by
 obtain⟨a,c,d⟩:=a
 obtain⟨a',c',d'⟩:=b
 rw[Bool.eq_iff_iff];simp[and_assoc]
theorem Wf(d e:Kp.Dk):ai E 95 [cH d,cH e] (fun r t=>r=bl (decide (d=e))∧t=[]):=by
 refine ai.aC (n:=38) (rs:=[.tmp 4]) Tryz.func95 rfl Tryz.ntmps95 rfl ?_
 repeat'(first
 |refine aa.ah fun K hK=>?_
 |(
  refine aa.here 4 10 28 rfl ?_
  obtain rfl|rfl:i=0∨i=1:=by omega
  refine aa.bB [0,1,2,3,4,5,6,7,8,9,10,11,12,13,14,15,16,17,18,19,20,21,22,23,24,25,26,27] [] ae ae rfl ?_;simp only[go_sem])
 |(refine aa.region ?_;simp only[go_sem])
 |(refine aa.here 4 10 28 rfl ?_;refine aa.bB [0,1,2,3,4,5,6,7,8,9,10,11,12,13,14,15,16,17,18,19,20,21,22,23,24,25,26,27] [] ae ae rfl ?_;simp only[go_sem])
 |(refine hK _ ?_;clear hK K)
 |refine aa.block ?_
 |refine aa.cond rfl (fun c=>?_) (fun c=>?_)<;>first|exact Bool.noConfusion c|(try simp only[dD] at c)
 |refine aa.skip ?_
 |(refine aa.exit ?_;simp only[go_sem])
 |(refine aP.split (fun h=>?_) (fun h=>?_)<;>simp only[h,go_sem]<;>(try simp only[dD] at h))
 |(
  refine aa.here 2 6 2 rfl ?_
  refine aa.dT (ι:=Nat) [4,6,7,8,9,10,11,12,13,14,15,16,17,18,19,20,21,22,23,24,25,26,27,28,29,30,31,32,33,34,35,36,37] (fun(i:Nat)=>[(5,i64 i)]) (fun(i:Nat)=>[some [cH d],some [cH e]]) (fun(i:Nat)=>[]) (fun(i:Nat)=>i≤2∧(1≤i→d.f0=e.f0)∧(2≤i→d.f1=e.f1)) (fun(i:Nat)=>2-i) (0) ?_ ?_ ?_
  ·(try simp only[go_sem]);(try simp only[go_sem,fg,fh]);(repeat'(first|exact gT|refine And.intro ?_ ?_))
  ·exact⟨by omega,fun h=>by omega,fun h=>by omega⟩
  rintro i ⟨h1,h2,h3⟩
  simp only[go_sem])
 |(
  refine⟨1,?_,?_,?_⟩
  ·(try simp only[go_sem]);(try rw[aM ab ab]);(try simp only[go_sem,fg,fh]);(repeat'(first|exact gT|refine And.intro ?_ ?_))
  ·exact⟨by omega,fun _=>by(exact y6 af af),fun h=>by(exfalso;omega)⟩
  ·(try simp only[]);omega)
 |(
  refine⟨2,?_,?_,?_⟩
  ·(try simp only[go_sem]);(try rw[aM ab ab]);(try simp only[go_sem,fg,fh]);(repeat'(first|exact gT|refine And.intro ?_ ?_))
  ·exact⟨by omega,fun _=>by(exact h2 ab),fun h=>by(exact y6 af af)⟩
  ·(try simp only[]);omega)
 |(
  refine aa.ret ?_
  refine aN.is ?_;simp only[go_sem,aI,aH,aG,aK,aJ,aL]<;>(first|(rw[LY af];done)|(rw[LZ af];done)|(rw[L0 af];done)|(rw[L1 af];done)|(rw[LX (h2 ab) (h3 ab)];simp;done)))
 |refine aa.fin af ?_)
theorem V6(j q:Kp.Jn):ai E 40 [ga j,ga q] (fun r t=>r=bl (decide (j=q))∧t=[]):=by
 refine ai.aC (n:=24) (rs:=[.tmp 4]) Tryz.func40 rfl Tryz.ntmps40 rfl ?_
 repeat'(first
 |refine aa.ah fun K hK=>?_
 |(refine aa.region ?_;simp only[go_sem])
 |(refine hK _ ?_;clear hK K)
 |(refine ak.one (Wf j.d q.d) ae rfl ?_;simp only[go_sem])
 |(refine aP.split (fun h=>?_) (fun h=>?_)<;>simp only[h,go_sem]<;>(try simp only[dD] at h))
 |(
  refine aa.ret ?_
  refine aN.is ?_;simp only[go_sem,aI,aH,aG,aK,aJ,aL]<;>((rw[XC];simp[*];done))))
theorem Wb(n p m q:Int)(k l:Kp.Ks Gt)(hk:dn k.g):ai E 15 [fH n p k,fH m q l] (fun r t=>r=bl (decide (n=m)&&decide (p=q)&&decide (k.jn=l.jn)&&decide (k.g=l.g))∧t=[]):=by
 refine ai.aC (n:=31) (rs:=[.tmp 4]) Tryz.func15 rfl Tryz.ntmps15 rfl ?_
 repeat'(first
 |refine aa.ah fun K hK=>?_
 |(refine aa.region ?_;simp only[go_sem])
 |(refine hK _ ?_;clear hK K)
 |(refine ak.one (V6 k.jn l.jn) ae rfl ?_;simp only[go_sem])
 |(refine ak.one (ri k.g l.g hk.fit) ae rfl ?_;simp only[go_sem])
 |(refine aP.split (fun h=>?_) (fun h=>?_)<;>simp only[h,go_sem]<;>(try simp only[dD] at h))
 |(
  refine aa.ret ?_
  refine aN.is ?_;simp only[go_sem,aI,aH,aG,aK,aJ,aL]<;>((simp[*];done))))
end Go.Proofs.YthoonfpkfdjhiaaGreatDoor
end
section
namespace Go.Proofs.YthoonfpkfdjhiaaGreatDoor
open Go Go.az Go.RowKit Go.Bk
abbrev jh(v:Vn):AV:= .agg [bz v.book.aq,dp v.book.av,.sl none 1 (v.book.ids.map str),i64 v.book.clock,i64 v.book.bad,.sl (some 0) 8 (v.aF.map bf),i64 v.last,bl v.bp]
theorem xV{no nt m k:Nat}{l:List Vn}{v:Vn}(h:0<nt):∀es,some ((l.map aO++spare 8 m).set k (jh v))=some es→∀e∈es,∀z∈e.leaves,z.bw no nt=true:=by
 intro es he e hm z hz
 simp only[Option.some.injEq] at he
 subst he
 rcases List.mem_or_eq_of_mem_set hm with hm|rfl
 ·exact dw (no:=no) (nt:=nt) (m:=m) (l:=l) _ rfl e hm z hz
 ·simp only[AV.leaves,List.mem_cons,List.not_mem_nil,or_false] at hz
  rcases hz with rfl|rfl|rfl|rfl|rfl|rfl|rfl|rfl<;>first|rfl|exact decide_eq_true h
theorem mz{p:Prop}[Decidable p](h:false=decide p):¬p:=of_decide_eq_false h.symm
theorem mA{p:Prop}[Decidable p](h:true=decide p):p:=of_decide_eq_true h.symm
theorem sx{p:Prop}[Decidable p](h:¬p):false=decide p:=(decide_eq_false h).symm
theorem qA{p:Prop}[Decidable p](h:p):true=decide p:=(decide_eq_true h).symm
theorem gI{l:List Vn}{i k m:Nat}{v:Vn}{t:AV}(hki:k<i)(h:l[i]?=some v):((l.map aO++spare 8 m).set k t).set i (.agg [bz v.book.aq,dp v.book.av,.sl none 1 (v.book.ids.map str),i64 v.book.clock,i64 v.book.bad,bz v.aF,i64 v.last,bl v.bp])=(l.map aO++spare 8 m).set k t:=by
 rw[List.set_comm _ _ ab,cL h]
theorem sL{v:Vn}{id:Bs}(h:hasB v.book.aq id=false∧hasB v.aF id=false):gd v id=false:=by simp[gd,h]
theorem pS{l:List Vn}{k m:Nat}{w:Vn}(h:l[k]?=some w):(((l.map aO++spare 8 m).set k (jh w)).set k (.agg [bz w.book.aq,dp w.book.av,.sl none 1 (w.book.ids.map str),i64 w.book.clock,i64 w.book.bad,.sl none 8 (w.aF.map bf),i64 w.last,bl w.bp]))=l.map aO++spare 8 m:=by
 rw[List.set_set];exact cL h
theorem Cc{l:List Vn}{k m:Nat}{w:Vn}{o:Od}(h:k<l.length):((((l.map aO++spare 8 m).set k (jh w)).set k (.agg [bz w.book.aq,dp w.book.av,.sl none 1 (w.book.ids.map str),i64 w.book.clock,i64 w.book.bad,.sl (some 0) 8 (w.aF.map bf++[bf o]),i64 w.last,bl w.bp])).set k (.agg [bz w.book.aq,dp w.book.av,.sl none 1 (w.book.ids.map str),i64 w.book.clock,i64 w.book.bad,.sl none 8 (w.aF.map bf++[bf o]),i64 w.last,bl w.bp]))=(l.set k (iD w o)).map aO++spare 8 m:=by
 rw[List.set_set,List.set_set,←oD (v:=iD w o) h]
 congr 1
 simp[iD]
theorem Xv{l:List Vn}{k m:Nat}{w:Vn}{o:Od}(h:k<l.length):((((l.map aO++spare 8 m).set k (jh w)).set k (.agg [bz w.book.aq,dp w.book.av,.sl none 1 (w.book.ids.map str),i64 w.book.clock,i64 w.book.bad,.sl (some 0) 8 (w.aF.map bf++[AV.agg [str o.id,str o.acc,str o.sym,bl o.aD,i64 o.au,i64 o.aE,.v (.int .i64 0),.v (.bool true)]]),i64 w.last,bl w.bp])).set k (.agg [bz w.book.aq,dp w.book.av,.sl none 1 (w.book.ids.map str),i64 w.book.clock,i64 w.book.bad,.sl none 8 (w.aF.map bf++[AV.agg [str o.id,str o.acc,str o.sym,bl o.aD,i64 o.au,i64 o.aE,.v (.int .i64 0),.v (.bool true)]]),i64 w.last,bl w.bp]))=(l.set k (iD w (ee o))).map aO++spare 8 m:=Cc (o:=ee o) h
theorem P7(g:Gt)(k:Nat)(w:Vn)(o:Od)(hg:dn g)(hx0:g.an[k]?=some w)(ha:bQ g (k:Int)=true)(hmay:bY (ee o)=true):ai E 83 [bK g,i64 (k:Int),bf o] (fun r t=>r= .ax [bK (gE g (k:Int) o).1,i64 (gE g (k:Int) o).2.1,i64 (gE g (k:Int) o).2.2]∧t=[]):=by
 have hgi:=hg.fit
 have hg1:=hg.1
 have hg2:=hg.2.1
 have hkn:=cz hx0
 have hsm:=zR ha hx0
 refine ai.aC (n:=56) (rs:=[.cell 6 55,.tmp 7,.tmp 8]) Tryz.func83 rfl Tryz.ntmps83 rfl ?_
 repeat'(first
 |(
  refine aa.jS hc1 ?_
  first
  |(refine aa.jE [0,1,2,3,4,6] aj rfl rfl ?_;simp only[go_sem,lh,List.length_map];refine aa.weaken ?_ (hc1 m);(try simp only[go_sem]);(repeat'(first|refine And.intro ?_ ?_|trivial|exact .inr (bm rfl)|exact .inr dw));done)
  |(have he:g.an=[]:=Classical.byContradiction fun hne=>by
     have:=hbb (by simpa using hne)
     simp_all
    refine aa.kK 3 0 8 _ rfl rfl ?_
    simp only[go_sem]
    refine aa.weaken ?_ (hc1 0);(try simp only[go_sem,he,List.length_nil,List.map_nil,kZ]);(repeat'(first|refine And.intro ?_ ?_|trivial|exact .inr (bm rfl)));done))
 |refine aa.ah fun K hK=>?_
 |(
  refine aa.here 1 5 5 rfl ?_
  first
  |(have h0:=hc1;clear h0;refine aa.aW ?_;refine al.at 5 2 rfl ?_;simp only[go_sem])
  |((fail_if_success(have h0:=hc1));refine aa.cutAt (ι:=Nat) [5,6,7,8] (fun(m:Nat)=>[]) (fun(m:Nat)=>[some [.agg [fe g.an,ct g.aY,bl g.kill,i64 g.now,i64 g.pat]],some [bf o],some [.agg [.aw,.aw,bl false,i64 0,i64 0]],some [.agg [.mu 5 8 0 g.an.length (g.an.length+m),ct g.aY,bl g.kill,i64 g.now,i64 g.pat]],some [.agg [.aw,.aw,bl false,i64 0,i64 0]],some (g.an.map aO++spare 8 m)]) (fun(m:Nat)=>[]) hK (fun m=>?_) (fun hc1=>?_)))
 |(refine Cut.mk ?_;simp only[go_sem])
 |(
  refine aa.here 5 26 5 rfl ?_
  have hxk:((g.an.map aO++spare 8 m).set k (jh w))[k]?=some (jh w):=List.getElem?_set_self (by simp;omega)
  refine aa.region ?_;simp only[go_sem,ha,hmay])
 |(
  refine aa.here 6 30 6 rfl ?_
  refine aa.bB [0,1,2,3,4,5] [] ae ae rfl ?_;simp only[go_sem,ha,hmay,hxk])
 |(
  refine aa.here 7 36 4 rfl ?_
  refine aa.lN 5 k 5 rfl hxk rfl ?_
  simp only[go_sem,ha,hmay]
  rw[pS hx0]
  refine aa.eT 6 0 (jd:=5) (k:=8) (n:=g.an.length) (cap:=g.an.length+m) _ (g.an.map aO++spare 8 m) aj rfl rfl rfl (by simp[da]) (by rw[eQ];exact fm _) ?_
  rw[eQ]
  simp only[go_sem,ha,hmay]
  refine aa.region ?_;simp only[go_sem,ha,hmay])
 |(
  refine aa.here 10 43 5 rfl ?_
  refine aa.lN 5 k 5 rfl hxk rfl ?_
  simp only[go_sem,ha,hmay]
  rw[pS hx0]
  refine aa.eT 6 0 (jd:=5) (k:=8) (n:=g.an.length) (cap:=g.an.length+m) _ (g.an.map aO++spare 8 m) aj rfl rfl rfl (by simp[da]) (by rw[eQ];exact fm _) ?_
  rw[eQ]
  simp only[go_sem,ha,hmay]
  refine aa.region ?_;simp only[go_sem,ha,hmay])
 |(
  refine aa.here 11 45 11 rfl ?_
  refine aa.rj (.take 0 (.take 1 (.take 2 (.take 3 (.take 4 (.take 5 (.take 6 (.take 7 (.take 8 (.take 9 (.take 10 .done))))))))))) [[],[],[1],[1,2],[1,2,3],[],[5],[1,2,3,4,5,6],[0,1,2,3,4,5,6,7],[0,1,2,3,4,5,6,7,8],[0,1,2,3,4,5,6,7,8,9]] [] ae ae ?_;simp only[go_sem,ha,hmay,hxk])
 |(
  refine aa.here 12 55 4 rfl ?_
  refine aa.lN 5 k 5 rfl (List.getElem?_set_self (by simp;omega)) rfl ?_
  simp only[go_sem,ha,hmay]
  rw[Xv hkn]
  refine aa.eT 6 0 (jd:=5) (k:=8) (n:=g.an.length) (cap:=g.an.length+m) _ ((g.an.set k (iD w (ee o))).map aO++spare 8 m) aj rfl rfl rfl (by simp[da]) (by rw[gM];exact fm _) ?_
  rw[gM]
  simp only[go_sem,ha,hmay]
  refine aa.region ?_;simp only[go_sem,ha,hmay])
 |(
  refine aa.here 5 15 5 rfl ?_
  obtain⟨v,hx⟩:∃v,g.an[i]?=some v:=⟨_,List.getElem?_eq_getElem ab⟩
  have hv:=hg.2.2 v (List.mem_of_getElem? hx)
  have hx2:(g.an.map aO++spare 8 m)[i]?=some (aO v):=by rw[List.getElem?_append_left (by simpa using cz hx),List.getElem?_map,hx];rfl
  have hvw:i=k→v=w:=fun e=>by subst e;rw[hx] at hx0;exact Option.some.inj hx0
  (first|have hki:=mz hbk|(have hki:=mA hbk;have hx3:((g.an.map aO++spare 8 m).set k (jh w))[i]?=some (aO v):=(List.getElem?_set_ne ab).trans hx2))
  refine aa.region ?_;simp only[go_sem])
 |(
  refine aa.here 7 29 11 rfl ?_
  (first|rw[cL hx]|rw[gI ab hx])
  refine aa.region ?_;simp only[go_sem])
 |(
  refine aa.here 8 39 11 rfl ?_
  (first|rw[cL hx]|rw[gI ab hx])
  refine aa.region ?_;simp only[go_sem])
 |(
  refine aa.here 10 57 2 rfl ?_
  (first|rw[cL hx]|rw[gI ab hx]|skip)
  (try(obtain rfl:=hvw hik1;subst hik1))
  refine aa.region ?_;simp only[go_sem])
 |(
  refine aa.here 9 49 9 rfl ?_
  (first|rw[cL hx]|rw[gI ab hx])
  rcases Nat.decEq i k with hik0|hik1<;>(first|(exfalso;omega)|(refine aa.region ?_;simp only[go_sem])))
 |(
  refine aa.here 11 58 5 rfl ?_
  (first|(exfalso;have hki:=mz hbk;omega)|(have hki:=mA hbk;refine aa.region ?_;simp only[go_sem])))
 |(
  refine aa.here 3 5 4 rfl ?_
  refine aa.aW ?_
  refine al.kJ eM ?_
  simp only[go_sem]
  refine al.at 3 1 rfl ?_
  simp only[go_sem]
  refine al.ku kf eM rfl rfl rfl (by simp;omega) (by simp;omega) ?_
  intro m
  simp only[go_sem]
  refine al.of ?_
  simp only[go_sem])
 |(refine aa.here 1 12 4 rfl ?_;refine aa.aW ?_;refine al.at 4 1 rfl ?_;simp only[go_sem,ha,hmay])
 |(refine aa.region ?_;simp only[go_sem,ha,hmay])
 |(refine hK _ ?_;clear hK K)
 |refine aa.block ?_
 |refine aa.cond rfl (fun c=>?_) (fun c=>?_)<;>first|exact Bool.noConfusion c|(try simp only[dD] at c)
 |refine aa.skip ?_
 |(refine aa.exit ?_;simp only[go_sem,ha,hmay])
 |(refine ak.one (jv g (k:Int) hgi) ae rfl ?_;simp only[go_sem,ha,hmay])
 |(refine ak.one (ou (ee o)) ae rfl ?_;simp only[go_sem,ha,hmay])
 |(refine ak.one (zt w o.id (hg.2.2 w (List.mem_of_getElem? hx0)).fit) ae rfl ?_;simp only[go_sem,ha,hmay])
 |(refine ak.one (zF g k w (ee o) hgi hx0 hsm) ae rfl ?_;simp only[go_sem,ha,hmay])
 |(have h0:=hik1;clear h0;refine ak.of (om v.aF hv.2.2.2) ae rfl ?_;rintro r t ⟨rfl,rfl⟩;simp only[go_sem])
 |(refine ak.one (eS v.book.aq hv.1) ae rfl ?_;simp only[go_sem])
 |(refine ak.one (eS v.aF hv.2.2.2) ae rfl ?_;simp only[go_sem])
 |(refine ak.one (ky v.book.av hv.2.1) ae rfl ?_;simp only[go_sem])
 |(refine ak.one (kX v.book.ids hv.2.2.1) ae rfl ?_;simp only[go_sem])
 |(refine ak.one (kH g.aY hg2) ae rfl ?_;simp only[go_sem])
 |(refine al.call (rs:=[.cell 2 55]) Tryz.func127 rfl Tryz.ntmps127 rfl ae rfl rfl ?_;simp only[go_sem])
 |(refine al.call (rs:=[.tmp 2]) Tryz.func78 rfl Tryz.ntmps78 rfl ae rfl rfl ?_;simp only[go_sem])
 |(refine aQ.ez af ?_;(try simp only[go_sem,ha,hmay]))
 |(refine aQ.gV af ?_;(try simp only[go_sem,ha,hmay]))
 |((with_reducible refine And.intro ?_ ?_);(focus(first|omega|(simp;done)));(try simp only[hb,go_sem,ha,hmay]))
 |(
  refine aa.here 3 13 1 rfl ?_
  refine aa.dT (ι:=Bool×Nat) [3,4,13,14,15,16,17,18,19,20,21,22,23,24,25,26,27,28,29,30,31,32,33,34,35,36,37,38,39,40,41,42,43,44,45,46,47,48,49,50,51,52,53,54,55,56,57] (fun⟨bk,i⟩=>[(12,i64 i)]) (fun⟨bk,i⟩=>[some [.agg [fe g.an,ct g.aY,bl g.kill,i64 g.now,i64 g.pat]],some [bf o],some [.agg [.aw,.aw,bl false,i64 0,i64 0]],some [.agg [.mu 5 8 0 g.an.length (g.an.length+m),ct g.aY,bl g.kill,i64 g.now,i64 g.pat]],some [.agg [.aw,.aw,bl false,i64 0,i64 0]],some (bif bk then((g.an.map aO++spare 8 m).set k (jh w)) else(g.an.map aO++spare 8 m))]) (fun⟨bk,i⟩=>(bif bk then[w.aF.length] else[])) (fun⟨bk,i⟩=>i≤g.an.length∧bk=decide (k<i)) (fun⟨bk,i⟩=>g.an.length-i) ((false,0)) ?_ ?_ ?_
  ·(try simp only[go_sem]);(repeat'(first|refine And.intro ?_ ?_|trivial|exact .inr (bm rfl)|exact .inr dw));done
  ·exact⟨by omega,by simp⟩
  rintro⟨bk,i⟩ ⟨h1,hbk⟩
  simp only[go_sem]
  cases bk<;>simp only[cond_true,cond_false])
 |(
  refine⟨(false,i+1),?_,?_,?_⟩
  ·(try simp only[go_sem]);(try rw[aM ab ab]);(repeat'(first|refine And.intro ?_ ?_|exact .inr rfl|exact .inr (bm rfl)|exact .inr dw|exact .inr ⟨by simp,by simp⟩));done
  ·(exact⟨by omega,sx ab⟩)
  ·(try simp only[]);omega)
 |(
  refine⟨(true,i+1),?_,?_,?_⟩
  ·(try simp only[go_sem]);(try rw[aM ab ab]);(repeat'(first|refine And.intro ?_ ?_|exact .inr rfl|trivial|exact .inr (bm rfl)|exact .inr (xV aj)));done
  ·(exact⟨by omega,qA ab⟩)
  ·(try simp only[]);omega)
 |(
  refine aa.ret ?_
  refine aN.is ?_;simp only[go_sem,aI,aH,aG,aK,aJ,aL]<;>(first
  |(rw[Vm ha hmay hx0 (by simp[gd];assumption)];simp;done)
  |(rw[Vo ha hmay hx0 (sL af) af];simp;done)
  |(rw[Vk ha hmay hx0 (sL af) af];simp[dW];done)))
 |(refine aa.ret ?_;refine bW.ret rfl ?_;simp only[go_sem,ha,hmay])
 |(refine aa.ret ?_;simp only[fZ,fU];refine bW.ret rfl ?_;simp only[go_sem,ha,hmay])
 |(refine al.of ?_;simp only[go_sem,ha,hmay])
 |((fail_if_success(have:=hbb));(with_reducible intro bb hbb))
 |refine aa.fin af ?_)
theorem P6(g:Gt)(n:Int)(o:Od)(hg:dn g):ai E 83 [bK g,i64 n,bf o] (fun r t=>r= .ax [bK (gE g n o).1,i64 (gE g n o).2.1,i64 (gE g n o).2.2]∧t=[]):=by
 cases ha:bQ g n with
 |false=>rw[Bb ha];exact zy g n o hg (.inl ha)
 |true=>
  cases hm:bY (ee o) with
  |false=>rw[Ba hm];exact zy g n o hg (.inr hm)
  |true=>
   obtain⟨k,v,rfl,hx⟩:=kD ha
   exact P7 g k v o hg hx ha hm
theorem TK{o:Od}(h:bY o=true):0≤o.done∧o.done≤o.au∧0≤o.au∧o.au≤1099511627776∧0≤o.aE∧o.aE≤1099511627776:=by
 simp only[bY,ch,Bool.and_eq_true,decide_eq_true_eq] at h;omega
theorem Xw{l:List Vn}{k m:Nat}{w:Vn}{fo:Od}{id:Bs}{q p:Int}(h:k<l.length):((((l.map aO++spare 8 m).set k (jh w)).set k (.agg [bz w.book.aq,dp w.book.av,.sl none 1 (w.book.ids.map str),i64 w.book.clock,i64 w.book.bad,.sl (some 0) 8 (w.aF.map bf++[AV.agg [str id,str fo.acc,str fo.sym,bl fo.aD,i64 q,i64 p,i64 fo.done,bl fo.b9]]),i64 w.last,bl w.bp])).set k (.agg [bz w.book.aq,dp w.book.av,.sl none 1 (w.book.ids.map str),i64 w.book.clock,i64 w.book.bad,.sl none 8 (w.aF.map bf++[AV.agg [str id,str fo.acc,str fo.sym,bl fo.aD,i64 q,i64 p,i64 fo.done,bl fo.b9]]),i64 w.last,bl w.bp]))=(l.set k (iD w (iT fo id q p))).map aO++spare 8 m:=Cc (o:=iT fo id q p) h
section
variable{g:Gt}{k:Nat}{w:Vn}{old id:Bs}{q p:Int}{fo:Od}{fnd:Bool}(ha:bQ g (k:Int)=true)(hx:g.an[k]?=some w)(hff:findF w.book.aq old=(fo,fnd))
include ha hx hff
theorem si(h:fnd=false∨fo.b9=false):fV g (k:Int) old id q p=(g,0,6):=by rw[o7 ha hx,hff,if_pos h]
variable(h1:fnd=true)(h2:fo.b9=true)
include h1 h2
theorem uL(hm:bY (iT fo id q p)=false):fV g (k:Int) old id q p=(g,0,1):=by rw[o7 ha hx,hff,if_neg (by simp[h1,h2]),if_pos hm]
variable(hm:bY (iT fo id q p)=true)
include hm
theorem uM(hk:gd w id=true):fV g (k:Int) old id q p=(g,0,7):=by rw[o7 ha hx,hff,if_neg (by simp[h1,h2]),if_neg (by simp[hm]),if_pos hk]
variable(hk:gd w id=false)
include hk
theorem Gn(hw:¬fD g w (mP fo id q p)=0):fV g (k:Int) old id q p=(g,fD g w (mP fo id q p),0):=by rw[o7 ha hx,hff,if_neg (by simp[h1,h2]),if_neg (by simp[hm]),if_neg (by simp[hk]),if_pos hw]
theorem Gj(hw:fD g w (mP fo id q p)=0):fV g (k:Int) old id q p=(dW g k (iD w (iT fo id q p)),0,0):=by rw[o7 ha hx,hff,if_neg (by simp[h1,h2]),if_neg (by simp[hm]),if_neg (by simp[hk]),if_neg (by simp[hw])]
end
theorem PK(g:Gt)(n:Int)(old id:Bs)(q p:Int)(hg:dn g)(ha:bQ g n=false):ai E 84 [bK g,i64 n,str old,str id,i64 q,i64 p] (fun r t=>r= .ax [bK g,i64 0,i64 1]∧t=[]):=by
 have hgi:=hg.fit
 refine ai.aC (n:=93) (rs:=[.cell 12 55,.tmp 13,.tmp 14]) Tryz.func84 rfl Tryz.ntmps84 rfl ?_
 repeat'(first
 |refine aa.ah fun K hK=>?_
 |(refine aa.region ?_;simp only[go_sem,ha])
 |(refine hK _ ?_;clear hK K)
 |refine aa.cond rfl (fun c=>?_) (fun c=>?_)<;>first|exact Bool.noConfusion c|(try simp only[dD] at c)
 |(refine ak.one (nP g hg) ae rfl ?_;simp only[go_sem,ha])
 |(refine ak.one (jv g n hgi) ae rfl ?_;simp only[go_sem,ha])
 |(
  refine aa.ret ?_
  refine aN.is ?_;simp only[go_sem,aI,aH,aG,aK,aJ,aL]<;>(first|fail)))
theorem PL(g:Gt)(k:Nat)(w:Vn)(old id:Bs)(q p:Int)(hg:dn g)(hx0:g.an[k]?=some w)(ha:bQ g (k:Int)=true):ai E 84 [bK g,i64 (k:Int),str old,str id,i64 q,i64 p] (fun r t=>r= .ax [bK (fV g (k:Int) old id q p).1,i64 (fV g (k:Int) old id q p).2.1,i64 (fV g (k:Int) old id q p).2.2]∧t=[]):=by
 have hgi:=hg.fit
 have hg1:=hg.1
 have hg2:=hg.2.1
 have hkn:=cz hx0
 have hsm:=zR ha hx0
 obtain⟨fo,fnd,hff⟩:∃fo fnd,findF w.book.aq old=(fo,fnd):=⟨_,_,rfl⟩
 refine ai.aC (n:=93) (rs:=[.cell 12 55,.tmp 13,.tmp 14]) Tryz.func84 rfl Tryz.ntmps84 rfl ?_
 repeat'(first
 |(
  refine aa.jS hc1 ?_
  first
  |(refine aa.jE [0,1,2,3,5] aj rfl rfl ?_;simp only[go_sem,lh,List.length_map];refine aa.weaken ?_ (hc1 m);(try simp only[go_sem]);(repeat'(first|refine And.intro ?_ ?_|trivial|exact .inr (bm rfl)|exact .inr dw));done)
  |(have he:g.an=[]:=Classical.byContradiction fun hne=>by
     have:=hbb (by simpa using hne)
     simp_all
    refine aa.kK 2 0 8 _ rfl rfl ?_
    simp only[go_sem]
    refine aa.weaken ?_ (hc1 0);(try simp only[go_sem,he,List.length_nil,List.map_nil,kZ]);(repeat'(first|refine And.intro ?_ ?_|trivial|exact .inr (bm rfl)));done))
 |refine aa.ah fun K hK=>?_
 |(
  refine aa.here 1 5 5 rfl ?_
  first
  |(have h0:=hc1;clear h0;refine aa.aW ?_;refine al.at 5 2 rfl ?_;simp only[go_sem])
  |((fail_if_success(have h0:=hc1));refine aa.cutAt (ι:=Nat) [5,6,7,8] (fun(m:Nat)=>[]) (fun(m:Nat)=>[some [.agg [fe g.an,ct g.aY,bl g.kill,i64 g.now,i64 g.pat]],some [.agg [.aw,.aw,bl false,i64 0,i64 0]],some [.agg [.mu 4 8 0 g.an.length (g.an.length+m),ct g.aY,bl g.kill,i64 g.now,i64 g.pat]],some [.agg [.aw,.aw,bl false,i64 0,i64 0]],some (g.an.map aO++spare 8 m)]) (fun(m:Nat)=>[]) hK (fun m=>?_) (fun hc1=>?_)))
 |(refine Cut.mk ?_;simp only[go_sem])
 |(
  refine aa.here 4 28 5 rfl ?_
  have hxk:((g.an.map aO++spare 8 m).set k (jh w))[k]?=some (jh w):=List.getElem?_set_self (by simp;omega)
  refine aa.region ?_;simp only[go_sem,ha])
 |(
  refine aa.here 5 33 13 rfl ?_
  refine aa.region ?_;simp only[go_sem,ha,hxk])
 |(
  refine aa.here 7 49 4 rfl ?_
  refine aa.lN 4 k 5 rfl hxk rfl ?_
  simp only[go_sem,ha]
  rw[pS hx0]
  refine aa.eT 5 0 (jd:=4) (k:=8) (n:=g.an.length) (cap:=g.an.length+m) _ (g.an.map aO++spare 8 m) aj rfl rfl rfl (by simp[da]) (by rw[eQ];exact fm _) ?_
  rw[eQ]
  simp only[go_sem,ha]
  refine aa.region ?_;simp only[go_sem,ha])
 |(
  refine aa.here 10 59 4 rfl ?_
  refine aa.lN 4 k 5 rfl hxk rfl ?_
  simp only[go_sem,ha]
  rw[pS hx0]
  refine aa.eT 5 0 (jd:=4) (k:=8) (n:=g.an.length) (cap:=g.an.length+m) _ (g.an.map aO++spare 8 m) aj rfl rfl rfl (by simp[da]) (by rw[eQ];exact fm _) ?_
  rw[eQ]
  simp only[go_sem,ha]
  refine aa.region ?_;simp only[go_sem,ha])
 |(
  refine aa.here 11 60 5 rfl ?_
  refine aa.region ?_;simp only[go_sem,ha,hxk])
 |(
  refine aa.here 12 65 4 rfl ?_
  refine aa.lN 4 k 5 rfl hxk rfl ?_
  simp only[go_sem,ha]
  rw[pS hx0]
  refine aa.eT 5 0 (jd:=4) (k:=8) (n:=g.an.length) (cap:=g.an.length+m) _ (g.an.map aO++spare 8 m) aj rfl rfl rfl (by simp[da]) (by rw[eQ];exact fm _) ?_
  rw[eQ]
  simp only[go_sem,ha]
  refine aa.region ?_;simp only[go_sem,ha])
 |(
  refine aa.here 14 67 9 rfl ?_
  have hmb:=TK (show bY (iT fo id q p)=true by assumption)
  simp only[iT] at hmb
  have hw:IntKind.i64.wrap (q-fo.done)=q-fo.done:=aM ab ab
  refine aa.region ?_;simp only[go_sem,ha,hw])
 |(
  refine aa.here 17 80 5 rfl ?_
  refine aa.lN 4 k 5 rfl hxk rfl ?_
  simp only[go_sem,ha]
  rw[pS hx0]
  refine aa.eT 5 0 (jd:=4) (k:=8) (n:=g.an.length) (cap:=g.an.length+m) _ (g.an.map aO++spare 8 m) aj rfl rfl rfl (by simp[da]) (by rw[eQ];exact fm _) ?_
  rw[eQ]
  simp only[go_sem,ha]
  refine aa.region ?_;simp only[go_sem,ha])
 |(
  refine aa.here 18 82 11 rfl ?_
  refine aa.rj (.take 0 (.take 1 (.take 2 (.take 3 (.take 4 (.take 5 (.take 6 (.take 7 (.take 8 (.take 9 (.take 10 .done))))))))))) [[],[],[1],[1,2],[1,2,3],[],[5],[1,2,3,4,5,6],[0,1,2,3,4,5,6,7],[0,1,2,3,4,5,6,7,8],[0,1,2,3,4,5,6,7,8,9]] [] ae ae ?_;simp only[go_sem,ha,hxk])
 |(
  refine aa.here 19 92 4 rfl ?_
  refine aa.lN 4 k 5 rfl (List.getElem?_set_self (by simp;omega)) rfl ?_
  simp only[go_sem,ha]
  rw[Xw hkn]
  refine aa.eT 5 0 (jd:=4) (k:=8) (n:=g.an.length) (cap:=g.an.length+m) _ ((g.an.set k (iD w (iT fo id q p))).map aO++spare 8 m) aj rfl rfl rfl (by simp[da]) (by rw[gM];exact fm _) ?_
  rw[gM]
  simp only[go_sem,ha]
  refine aa.region ?_;simp only[go_sem,ha])
 |(
  refine aa.here 5 15 5 rfl ?_
  obtain⟨v,hx⟩:∃v,g.an[i]?=some v:=⟨_,List.getElem?_eq_getElem ab⟩
  have hv:=hg.2.2 v (List.mem_of_getElem? hx)
  have hx2:(g.an.map aO++spare 8 m)[i]?=some (aO v):=by rw[List.getElem?_append_left (by simpa using cz hx),List.getElem?_map,hx];rfl
  have hvw:i=k→v=w:=fun e=>by subst e;rw[hx] at hx0;exact Option.some.inj hx0
  (first|have hki:=mz hbk|(have hki:=mA hbk;have hx3:((g.an.map aO++spare 8 m).set k (jh w))[i]?=some (aO v):=(List.getElem?_set_ne ab).trans hx2))
  refine aa.region ?_;simp only[go_sem])
 |(
  refine aa.here 7 29 11 rfl ?_
  (first|rw[cL hx]|rw[gI ab hx])
  refine aa.region ?_;simp only[go_sem])
 |(
  refine aa.here 8 39 11 rfl ?_
  (first|rw[cL hx]|rw[gI ab hx])
  refine aa.region ?_;simp only[go_sem])
 |(
  refine aa.here 10 57 2 rfl ?_
  (first|rw[cL hx]|rw[gI ab hx]|skip)
  (try(obtain rfl:=hvw hik1;subst hik1))
  refine aa.region ?_;simp only[go_sem])
 |(
  refine aa.here 9 49 9 rfl ?_
  (first|rw[cL hx]|rw[gI ab hx])
  rcases Nat.decEq i k with hik0|hik1<;>(first|(exfalso;omega)|(refine aa.region ?_;simp only[go_sem])))
 |(
  refine aa.here 11 58 5 rfl ?_
  (first|(exfalso;have hki:=mz hbk;omega)|(have hki:=mA hbk;refine aa.region ?_;simp only[go_sem])))
 |(
  refine aa.here 3 5 4 rfl ?_
  refine aa.aW ?_
  refine al.kJ eM ?_
  simp only[go_sem]
  refine al.at 3 1 rfl ?_
  simp only[go_sem]
  refine al.ku kf eM rfl rfl rfl (by simp;omega) (by simp;omega) ?_
  intro m
  simp only[go_sem]
  refine al.of ?_
  simp only[go_sem])
 |(refine aa.here 1 21 4 rfl ?_;refine aa.aW ?_;refine al.at 4 1 rfl ?_;simp only[go_sem,ha])
 |(refine aa.region ?_;simp only[go_sem,ha])
 |(refine hK _ ?_;clear hK K)
 |refine aa.block ?_
 |refine aa.cond rfl (fun c=>?_) (fun c=>?_)<;>first|exact Bool.noConfusion c|(try simp only[dD] at c)
 |refine aa.skip ?_
 |(refine aa.exit ?_;simp only[go_sem,ha])
 |(refine ak.one (jv g (k:Int) hgi) ae rfl ?_;simp only[go_sem,ha])
 |(refine ak.one (s5 w.book.aq old ab) ae rfl ?_;simp only[hff];simp only[go_sem,ha])
 |(refine ak.one (ou (iT fo id q p)) ae rfl ?_;simp only[go_sem,ha])
 |(refine ak.one (zt w id (hg.2.2 w (List.mem_of_getElem? hx0)).fit) ae rfl ?_;simp only[go_sem,ha])
 |(refine ak.one (zF g k w (mP fo id q p) hgi hx0 hsm) ae rfl ?_;simp only[go_sem,ha])
 |(have h0:=hik1;clear h0;refine ak.of (om v.aF hv.2.2.2) ae rfl ?_;rintro r t ⟨rfl,rfl⟩;simp only[go_sem])
 |(refine ak.one (eS v.book.aq hv.1) ae rfl ?_;simp only[go_sem])
 |(refine ak.one (eS v.aF hv.2.2.2) ae rfl ?_;simp only[go_sem])
 |(refine ak.one (ky v.book.av hv.2.1) ae rfl ?_;simp only[go_sem])
 |(refine ak.one (kX v.book.ids hv.2.2.1) ae rfl ?_;simp only[go_sem])
 |(refine ak.one (kH g.aY hg2) ae rfl ?_;simp only[go_sem])
 |(refine al.call (rs:=[.cell 2 55]) Tryz.func127 rfl Tryz.ntmps127 rfl ae rfl rfl ?_;simp only[go_sem])
 |(refine al.call (rs:=[.tmp 2]) Tryz.func78 rfl Tryz.ntmps78 rfl ae rfl rfl ?_;simp only[go_sem])
 |(refine aP.split (fun h=>?_) (fun h=>?_)<;>simp only[h,go_sem,ha]<;>(try simp only[dD] at h))
 |(refine aQ.ez af ?_;(try simp only[go_sem,ha]))
 |(refine aQ.gV af ?_;(try simp only[go_sem,ha]))
 |((with_reducible refine And.intro ?_ ?_);(focus(first|omega|(simp;done)));(try simp only[hb,go_sem,ha]))
 |(
  refine aa.here 3 13 1 rfl ?_
  refine aa.dT (ι:=Bool×Nat) [3,4,13,14,15,16,17,18,19,20,21,22,23,24,25,26,27,28,29,30,31,32,33,34,35,36,37,38,39,40,41,42,43,44,45,46,47,48,49,50,51,52,53,54,55,56,57] (fun⟨bk,i⟩=>[(12,i64 i)]) (fun⟨bk,i⟩=>[some [.agg [fe g.an,ct g.aY,bl g.kill,i64 g.now,i64 g.pat]],some [.agg [.aw,.aw,bl false,i64 0,i64 0]],some [.agg [.mu 4 8 0 g.an.length (g.an.length+m),ct g.aY,bl g.kill,i64 g.now,i64 g.pat]],some [.agg [.aw,.aw,bl false,i64 0,i64 0]],some (bif bk then((g.an.map aO++spare 8 m).set k (jh w)) else(g.an.map aO++spare 8 m))]) (fun⟨bk,i⟩=>(bif bk then[w.aF.length] else[])) (fun⟨bk,i⟩=>i≤g.an.length∧bk=decide (k<i)) (fun⟨bk,i⟩=>g.an.length-i) ((false,0)) ?_ ?_ ?_
  ·(try simp only[go_sem]);(repeat'(first|refine And.intro ?_ ?_|trivial|exact .inr (bm rfl)|exact .inr dw));done
  ·exact⟨by omega,by simp⟩
  rintro⟨bk,i⟩ ⟨h1,hbk⟩
  simp only[go_sem]
  cases bk<;>simp only[cond_true,cond_false])
 |(
  refine⟨(false,i+1),?_,?_,?_⟩
  ·(try simp only[go_sem]);(try rw[aM ab ab]);(repeat'(first|refine And.intro ?_ ?_|exact .inr rfl|exact .inr (bm rfl)|exact .inr dw|exact .inr ⟨by simp,by simp⟩));done
  ·(exact⟨by omega,sx ab⟩)
  ·(try simp only[]);omega)
 |(
  refine⟨(true,i+1),?_,?_,?_⟩
  ·(try simp only[go_sem]);(try rw[aM ab ab]);(repeat'(first|refine And.intro ?_ ?_|exact .inr rfl|trivial|exact .inr (bm rfl)|exact .inr (xV aj)));done
  ·(exact⟨by omega,qA ab⟩)
  ·(try simp only[]);omega)
 |(
  refine aa.ret ?_
  refine aN.is ?_;simp only[go_sem,aI,aH,aG,aK,aJ,aL]<;>(first
  |(rw[si ha hx0 hff (.inl af)];simp;done)
  |(rw[si ha hx0 hff (.inr af)];simp;done)
  |(rw[uL ha hx0 hff af af af];simp;done)
  |(rw[uM ha hx0 hff af af af (by simp[gd];assumption)];simp;done)
  |(rw[Gn ha hx0 hff af af af (sL af) af];simp;done)
  |(rw[Gj ha hx0 hff af af af (sL af) af];simp[dW];done)))
 |(refine aa.ret ?_;refine bW.ret rfl ?_;simp only[go_sem,ha])
 |(refine aa.ret ?_;simp only[fZ,fU];refine bW.ret rfl ?_;simp only[go_sem,ha])
 |(refine al.of ?_;simp only[go_sem,ha])
 |((fail_if_success(have:=hbb));(with_reducible intro bb hbb))
 |refine aa.fin af ?_)
theorem PJ(g:Gt)(n:Int)(old id:Bs)(q p:Int)(hg:dn g):ai E 84 [bK g,i64 n,str old,str id,i64 q,i64 p] (fun r t=>r= .ax [bK (fV g n old id q p).1,i64 (fV g n old id q p).2.1,i64 (fV g n old id q p).2.2]∧t=[]):=by
 cases ha:bQ g n with
 |false=>rw[yf ha];exact PK g n old id q p hg ha
 |true=>
  obtain⟨k,v,rfl,hx⟩:=kD ha
  exact PL g k v old id q p hg hx ha
end Go.Proofs.YthoonfpkfdjhiaaGreatDoor
end
