/- Texts of one chain, put together (X4, X5, Z1, Z2, G7, G8, G9, X6b, N3b, N5b, N6, N8, M1b, M4). -/
import Derived.Test.YthoonfpkfdjhiaaGreatDoorKbN
import Derived.Test.YthoonfpkfdjhiaaGreatDoorKbK
import Derived.Test.YthoonfpkfdjhiaaGreatDoorKbJ
import Derived.Test.YthoonfpkfdjhiaaGreatDoorKbH
import Derived.Test.YthoonfpkfdjhiaaGreatDoorKbG
import Derived.WalkKit
import Derived.Lib.BytesEntry
import Derived.Test.YthoonfpkfdjhiaaGreatDoorKbA
set_option linter.unusedVariables false
set_option linter.unusedSimpArgs false
set_option maxHeartbeats 16000000
set_option maxRecDepth 8000
section
namespace Go.Proofs.YthoonfpkfdjhiaaGreatDoor
open Go Go.az Go.RowKit Go.Bk Go.Msg Go.Txt
def mf(bo bn b:UInt8):UInt8:=if b=bo then bn else b
def gU(bo bn b:UInt8):AV:=u8 (mf bo bn b)
variable{bo bn:UInt8}
theorem WH{l:List UInt8}{s i:Nat}(h:i<l.count bo)(h3:(l.take s).count bo=i):∃a r,l.drop s=a++bo::r∧bo∉a:=by
 have hc:0<(l.drop s).count bo:=by
  have:l.count bo=(l.take s).count bo+(l.drop s).count bo:=by rw[←List.count_append,List.take_append_drop]
  omega
 have hm:bo∈l.drop s:=List.count_pos_iff.1 hc
 cases hcut:Fld.cQ bo (l.drop s) with
 |none=>exact absurd hm (Fld.uS.1 hcut)
 |some p=>
  obtain⟨e1,e2⟩:=Fld.lH.1 (show Fld.cQ bo (l.drop s)=some (p.1,p.2) from hcut)
  exact⟨p.1,p.2,e1,e2⟩
theorem WL{l a r:List UInt8}{s:Nat}(h:l.drop s=a++bo::r):s+a.length+1≤l.length:=by
 have:=congrArg List.length h
 simp at this
 omega
theorem WO{l a r:List UInt8}{s:Nat}(h:l.drop s=a++bo::r):(l.take (s+a.length)).drop s=a:=by
 rw[List.drop_take,h,Nat.add_sub_cancel_left,List.take_left'];rfl
theorem WK{l a r:List UInt8}{s:Nat}(h:l.drop s=a++bo::r)(ha:bo∉a):Lib.indexByte (l.drop s) bo=(a.length:Int):=by
 rw[Fld.qM,h,Fld.uR r ha]
theorem BW{l a r:List UInt8}{s:Nat}(h:l.drop s=a++bo::r):l.take (s+a.length+1)=l.take s++(a++[bo]):=by
 rw[show s+a.length+1=s+(a.length+1) by omega,List.take_add,h]
 congr 1
 rw[show a++bo::r=(a++[bo])++r by simp]
 exact List.take_left' aB
theorem WG{l a r:List UInt8}{s i:Nat}(h:l.drop s=a++bo::r)(h3:(l.take s).count bo=i)(ha:bo∉a:=by assumption):(l.take (s+a.length+1)).count bo=i+1:=by
 rw[BW h,List.count_append,List.count_append,h3,List.count_eq_zero.2 ha];simp
theorem vt{P A:List AV}{z:AV}{q s:Nat}(hs:P.length=s)(hA:A.length≤q):(P++List.replicate q z).take s++(A++(P++List.replicate q z).drop (s+A.length))=P++A++List.replicate (q-A.length) z:=by
 subst hs
 rw[List.take_left,List.drop_length_add_append,List.drop_replicate,List.append_assoc]
theorem WQ{l a r:List UInt8}{s:Nat}(h:l.drop s=a++bo::r)(ha:bo∉a):(l.take s).map (gU bo bn)++a.map u8++[u8 bn]++List.replicate (l.length-s-a.length-1) (u8 0)=(l.take (s+a.length+1)).map (gU bo bn)++List.replicate (l.length-(s+a.length+1)) (u8 0):=by
 have e:a.map u8=a.map (gU bo bn):=List.map_congr_left fun b hb=>by
  unfold gU mf;rw[if_neg (fun e=>ha (by rw[←e];exact hb))]
 rw[BW h,e]
 simp only[List.map_append,List.map_cons,List.map_nil,List.append_assoc]
 rw[show gU bo bn bo=u8 bn by unfold gU mf;rw[if_pos rfl],show l.length-s-a.length-1=l.length-(s+a.length+1) by omega]
theorem Fl{no nt n:Nat}{l:List UInt8}:∀es,some (l.map (gU bo bn)++List.replicate n (u8 0))=some es→∀e∈es,∀z∈e.leaves,z.bw no nt=true:=by
 intro es he e hm z hz
 simp only[Option.some.injEq] at he
 subst he
 rcases List.mem_append.1 hm with h|h
 ·obtain⟨b,_,rfl⟩:=List.mem_map.1 h
  have hz2:z∈[(gU bo bn) b]:=hz
  rw[List.mem_singleton] at hz2
  subst hz2;rfl
 ·have h:=(List.mem_replicate.1 h).2
  subst h
  have hz2:z∈[u8 0]:=hz
  rw[List.mem_singleton] at hz2
  subst hz2;rfl
theorem WN{l:List UInt8}(h:l.count bo=0):l.map (mf bo bn)=l:=by
 conv=>rhs;rw[←List.map_id l]
 apply List.map_congr_left
 intro b hb
 unfold mf
 rw[if_neg (fun e=>List.count_eq_zero.1 h (by rw[←e];exact hb))];rfl
theorem KB{l:List UInt8}:∀e∈l.map (gU bo bn),∀x∈e.leaves,x.dR=some x:=by
 intro e he x hx
 obtain⟨b,_,rfl⟩:=List.mem_map.1 he
 have hz2:x∈[(gU bo bn) b]:=hx
 rw[List.mem_singleton] at hz2
 subst hz2;rfl
theorem WM{l:List UInt8}:l.map (gU bo bn)=(l.map (mf bo bn)).map u8:=by rw[List.map_map];rfl
theorem WI{l:List UInt8}{s:Nat}:∀(h:s=l.length),((l.take s).map (gU bo bn)++List.replicate (l.length-s) (u8 0))=l.map (gU bo bn):=by
 rintro rfl;simp
theorem WJ{l:List UInt8}{s:Nat}(h:(l.take s).count bo=l.count bo):(l.take s).map (gU bo bn)++(l.drop s).map u8++List.replicate (l.length-s-((l.drop s).map u8).length) (u8 0)=l.map (gU bo bn):=by
 have hc:(l.drop s).count bo=0:=by
  have:l.count bo=(l.take s).count bo+(l.drop s).count bo:=by rw[←List.count_append,List.take_append_drop]
  omega
 have e:(l.drop s).map u8=(l.drop s).map (gU bo bn):=List.map_congr_left fun b hb=>by
  unfold gU mf;rw[if_neg (fun e=>List.count_eq_zero.1 hc (by rw[←e];exact hb))]
 rw[List.length_map,List.length_drop,Nat.sub_self,List.replicate_zero,List.append_nil,e,←List.map_append,List.take_append_drop]
theorem WV(bo bn:UInt8)(l:List UInt8)(hl:l≠[])(hlen:l.length≤5000):ai E 161 [aU l,.sl none 1 [u8 bo],.sl none 1 [u8 bn],i64 (-1)] (fun r t=>r=aU (l.map (mf bo bn))∧t=[]):=by
 have hlp:=List.length_pos_iff.2 hl
 have hcl:=List.count_le_length (a:=bo) (l:=l)
 refine ai.aC (n:=132) (rs:=[.tmp 8]) Tryz.func161 rfl Tryz.ntmps161 rfl ?_
 repeat'(first
 |refine aa.ah fun K hK=>?_
 |(
  refine aa.here 14 51 8 rfl ?_
  obtain⟨a,r,hd,ha⟩:=WH (s:=p) (by omega:i<l.count bo) h3
  have hal:p+a.length+1≤l.length:=WL hd
  have hpiece:=WO hd
  have hidx:=WK hd ha
  have hw1:IntKind.i64.wrap ((p:Int)+(a.length:Int))=((p+a.length:Nat):Int):=by rw[aM ab ab];omega
  have hw2b:(((p+a.length:Nat):Int)+1)=((p+a.length+1:Nat):Int):=by omega
  have hw3:IntKind.i64.wrap ((i:Int)+1)=((i+1:Nat):Int):=by rw[aM ab ab];omega
  refine aa.region ?_;simp only[go_sem,hidx,hw1])
 |(
  refine aa.here 8 34 12 rfl ?_
  refine aa.aW ?_
  refine al.at 12 10 rfl ?_
  simp only[go_sem]
  (repeat(refine⟨⟨_,rfl⟩,?_⟩))
  have hwl:IntKind.i64.wrap (l.length:Int)=(l.length:Int):=aM ab ab
  simp only[wl0,Int.mul_zero,Int.add_zero,hwl]
  refine al.TA (m:=l.length) (zs:=[u8 0]) (z:=u8 0) nA ae rfl rfl rfl ab aj aj ?_
  simp only[go_sem]
  refine al.of ?_
  (try simp only[go_sem]))
 |(
  refine aa.here 15 58 11 rfl ?_
  simp only[hidx,hw1]
  refine aa.na [[],[],[],[1,2],[],[],[],[4,5,6],[1,2,3,4,5,6,7],[0,1,2,3,4,5,6,7,8],[0,1,2,3,4,5,6,7,8,9]] [i64 (p:Int),.mu 0 1 0 l.length l.length,i64 (p:Int),.mu 0 1 (0+p) (l.length-p) (l.length-p),aU l,i64 (p:Int),i64 ((p+a.length:Nat):Int),.sl none 1 (a.map u8),i64 (a.length:Nat),i64 ((p+a.length:Nat):Int),i64 ((p+a.length:Nat):Int)] [8] (fun k=>[[some ((l.take p).map (gU bo bn)++List.replicate (l.length-p) (u8 0))],[some ((l.take p).map (gU bo bn)++a.map u8++List.replicate (l.length-p-a.length) (u8 0))]].getD k []) ae ae rfl rfl rfl ?_ ?_ ?_
  ·intro i o ho hi s hg how htk hrs hr
   rcases i with _|i
   ·simp only[List.getElem?_toArray,List.getElem?_cons_zero,List.getElem?_cons_succ,Option.some.injEq] at ho;subst ho
    have e11:=(hr 11 aj).trans (rfl:_=(i64 (p:Int):AV))
    refine bc.list ?_
    simp only[go_sem,e11]
    (done)
   rcases i with _|i
   ·simp only[List.getElem?_toArray,List.getElem?_cons_zero,List.getElem?_cons_succ,Option.some.injEq] at ho;subst ho
    have e10:=(hr 10 aj).trans (rfl:_=(.mu 0 1 0 l.length l.length:AV))
    refine bc.list ?_
    simp only[go_sem,e10]
    (done)
   rcases i with _|i
   ·simp only[List.getElem?_toArray,List.getElem?_cons_zero,List.getElem?_cons_succ,Option.some.injEq] at ho;subst ho
    have e11:=(hr 11 aj).trans (rfl:_=(i64 (p:Int):AV))
    refine bc.list ?_
    simp only[go_sem,e11]
    (done)
   rcases i with _|i
   ·simp only[List.getElem?_toArray,List.getElem?_cons_zero,List.getElem?_cons_succ,Option.some.injEq] at ho;subst ho
    have e59:=(hr 59 aj).trans (rfl:_=(.mu 0 1 0 l.length l.length:AV))
    have e60:=(hr 60 aj).trans (rfl:_=(i64 (p:Int):AV))
    refine bc.call fun Q hQ=>?_
    refine al.ke (e:=5) (l:=p) (k:=1) (off:=0) (len:=l.length) (cap:=l.length) ae ae e59 e60 ab ab ab ?_
    exact hQ
   rcases i with _|i
   ·simp only[List.getElem?_toArray,List.getElem?_cons_zero,List.getElem?_cons_succ,Option.some.injEq] at ho;subst ho
    have e0:=(hr 0 aj).trans (rfl:_=(aU l:AV))
    refine bc.list ?_
    simp only[go_sem,e0]
    (done)
   rcases i with _|i
   ·simp only[List.getElem?_toArray,List.getElem?_cons_zero,List.getElem?_cons_succ,Option.some.injEq] at ho;subst ho
    have e12:=(hr 12 aj).trans (rfl:_=(i64 (p:Int):AV))
    refine bc.list ?_
    simp only[go_sem,e12]
    (done)
   rcases i with _|i
   ·simp only[List.getElem?_toArray,List.getElem?_cons_zero,List.getElem?_cons_succ,Option.some.injEq] at ho;subst ho
    have e13:=(hr 13 aj).trans (rfl:_=(i64 ((p+a.length:Nat):Int):AV))
    refine bc.list ?_
    simp only[go_sem,e13]
    (done)
   rcases i with _|i
   ·simp only[List.getElem?_toArray,List.getElem?_cons_zero,List.getElem?_cons_succ,Option.some.injEq] at ho;subst ho
    have e62:=(hr 62 aj).trans (rfl:_=(aU l:AV))
    have e63:=(hr 63 aj).trans (rfl:_=(i64 (p:Int):AV))
    have e64:=(hr 64 aj).trans (rfl:_=(i64 ((p+a.length:Nat):Int):AV))
    refine bc.list ?_
    simp only[go_sem,e62,e63,e64]
    (try rw[hpiece])
    (exact⟨by omega,by omega,rfl⟩)
   rcases i with _|i
   ·exact absurd aj hi
   rcases i with _|i
   ·simp only[List.getElem?_toArray,List.getElem?_cons_zero,List.getElem?_cons_succ,Option.some.injEq] at ho;subst ho
    have e58:=(hr 58 aj).trans (rfl:_=(i64 (p:Int):AV))
    have e66:=(hr 66 aj).trans (rfl:_=(i64 (a.length:Nat):AV))
    refine bc.list ?_
    simp only[go_sem,e58,e66]
    rw[aM ab ab]
    rfl
   rcases i with _|i
   ·simp only[List.getElem?_toArray,List.getElem?_cons_zero,List.getElem?_cons_succ,Option.some.injEq] at ho;subst ho
    have e67:=(hr 67 aj).trans (rfl:_=(i64 ((p+a.length:Nat):Int):AV))
    refine bc.list ?_
    simp only[go_sem,e67]
    (done)
   ·exact absurd ho aB
  ·intro k i o hk ho s hg how htk hrs hup hpp hr
   rcases k with _|k
   ·obtain rfl:=Option.some.inj hk
    simp only[List.getElem?_toArray,List.getElem?_cons_zero,List.getElem?_cons_succ,Option.some.injEq] at ho;subst ho
    have e61:=(hr 61 aj).trans (rfl:_=(.mu 0 1 (0+p) (l.length-p) (l.length-p):AV))
    have e65:=(hr 65 aj).trans (rfl:_=(.sl none 1 (a.map u8):AV))
    clear hr
    obtain⟨tm,ow0,tk0,gl0,rsv0,up0⟩:=s
    simp only[] at hg how htk hrs hup hpp;subst hg;subst how;subst htk;subst hrs;subst hup
    refine bc.call fun Q hQ=>?_
    refine al.qx (id:=0) (es:=((l.take p).map (gU bo bn)++List.replicate (l.length-p) (u8 0))) (xs:=a.map u8) nA e61 ((congrArg (fun z=>fE z 1) e65).trans rfl) rfl (by simp;omega) (by simp;omega) ab ?_
    rw[Nat.zero_add,vt (by simp;omega) (by simp;omega),List.length_map]
    exact hQ
   ·exact absurd hk aB
  simp only[go_sem,Go.az.gj,Go.az.dstsOf,List.map_cons,List.map_nil])
 |(
  refine aa.here 16 68 8 rfl ?_
  have hrow:=WQ (bn:=bn) (l:=l) hd ha
  refine aa.aW ?_
  refine al.at 8 3 rfl ?_
  simp only[go_sem]
  (repeat(refine⟨⟨_,rfl⟩,?_⟩))
  refine al.ke (e:=5) (l:=p+a.length) (k:=1) (off:=0) (len:=l.length) (cap:=l.length) ae ae rfl rfl ab ab ab ?_
  refine al.at 4 1 rfl ?_
  simp only[go_sem]
  (repeat(refine⟨⟨_,rfl⟩,?_⟩))
  refine al.qx (id:=0) (es:=((l.take p).map (gU bo bn)++a.map u8++List.replicate (l.length-p-a.length) (u8 0))) (xs:=[u8 bn]) nA rfl rfl rfl (by simp;omega) (by simp;omega) ab ?_
  (try rw[Nat.zero_add])
  rw[vt (by simp;omega) (by simp;omega),show([u8 bn]:List AV).length=1 from rfl,hrow]
  simp only[go_sem]
  refine al.of ?_
  (try simp only[go_sem]))
 |(
  refine aa.here 28 120 10 rfl ?_
  have hrowE2:=WJ (bo:=bo) (bn:=bn) (l:=l) (s:=p) ab
  rcases Nat.lt_or_ge p l.length with hlt|hge
  refine aa.na [[],[],[],[1,2],[],[],[4,5],[1,2,3,4,5,6],[0,1,2,3,4,5,6,7],[0,1,2,3,4,5,6,7,8]] [i64 (p:Int),.mu 0 1 0 l.length l.length,i64 (p:Int),.mu 0 1 (0+p) (l.length-p) (l.length-p),aU l,i64 (p:Int),.sl none 1 ((l.drop p).map u8),i64 ((l.length-p:Nat):Int),i64 (l.length:Int),i64 (l.length:Int)] [7] (fun k=>[[some ((l.take p).map (gU bo bn)++List.replicate (l.length-p) (u8 0))],[some (l.map (gU bo bn))]].getD k []) ae ae rfl rfl rfl ?_ ?_ ?_
  ·intro i o ho hi s hg how htk hrs hr
   rcases i with _|i
   ·simp only[List.getElem?_toArray,List.getElem?_cons_zero,List.getElem?_cons_succ,Option.some.injEq] at ho;subst ho
    have e11:=(hr 11 aj).trans (rfl:_=(i64 (p:Int):AV))
    refine bc.list ?_
    simp only[go_sem,e11]
    (done)
   rcases i with _|i
   ·simp only[List.getElem?_toArray,List.getElem?_cons_zero,List.getElem?_cons_succ,Option.some.injEq] at ho;subst ho
    have e10:=(hr 10 aj).trans (rfl:_=(.mu 0 1 0 l.length l.length:AV))
    refine bc.list ?_
    simp only[go_sem,e10]
    (done)
   rcases i with _|i
   ·simp only[List.getElem?_toArray,List.getElem?_cons_zero,List.getElem?_cons_succ,Option.some.injEq] at ho;subst ho
    have e11:=(hr 11 aj).trans (rfl:_=(i64 (p:Int):AV))
    refine bc.list ?_
    simp only[go_sem,e11]
    (done)
   rcases i with _|i
   ·simp only[List.getElem?_toArray,List.getElem?_cons_zero,List.getElem?_cons_succ,Option.some.injEq] at ho;subst ho
    have e121:=(hr 121 aj).trans (rfl:_=(.mu 0 1 0 l.length l.length:AV))
    have e122:=(hr 122 aj).trans (rfl:_=(i64 (p:Int):AV))
    refine bc.call fun Q hQ=>?_
    refine al.ke (e:=5) (l:=p) (k:=1) (off:=0) (len:=l.length) (cap:=l.length) ae ae e121 e122 ab ab ab ?_
    exact hQ
   rcases i with _|i
   ·simp only[List.getElem?_toArray,List.getElem?_cons_zero,List.getElem?_cons_succ,Option.some.injEq] at ho;subst ho
    have e0:=(hr 0 aj).trans (rfl:_=(aU l:AV))
    refine bc.list ?_
    simp only[go_sem,e0]
    (done)
   rcases i with _|i
   ·simp only[List.getElem?_toArray,List.getElem?_cons_zero,List.getElem?_cons_succ,Option.some.injEq] at ho;subst ho
    have e12:=(hr 12 aj).trans (rfl:_=(i64 (p:Int):AV))
    refine bc.list ?_
    simp only[go_sem,e12]
    (done)
   rcases i with _|i
   ·simp only[List.getElem?_toArray,List.getElem?_cons_zero,List.getElem?_cons_succ,Option.some.injEq] at ho;subst ho
    have e124:=(hr 124 aj).trans (rfl:_=(aU l:AV))
    have e125:=(hr 125 aj).trans (rfl:_=(i64 (p:Int):AV))
    refine bc.list ?_
    simp only[go_sem,e124,e125]
    (omega)
   rcases i with _|i
   ·exact absurd aj hi
   rcases i with _|i
   ·simp only[List.getElem?_toArray,List.getElem?_cons_zero,List.getElem?_cons_succ,Option.some.injEq] at ho;subst ho
    have e120:=(hr 120 aj).trans (rfl:_=(i64 (p:Int):AV))
    have e127:=(hr 127 aj).trans (rfl:_=(i64 ((l.length-p:Nat):Int):AV))
    refine bc.list ?_
    simp only[go_sem,e120,e127]
    rw[aM ab ab]
    rw[show((p:Int)+((l.length-p:Nat):Int))=(l.length:Int) by omega]
   rcases i with _|i
   ·simp only[List.getElem?_toArray,List.getElem?_cons_zero,List.getElem?_cons_succ,Option.some.injEq] at ho;subst ho
    have e128:=(hr 128 aj).trans (rfl:_=(i64 (l.length:Int):AV))
    refine bc.list ?_
    simp only[go_sem,e128]
    (done)
   ·exact absurd ho aB
  ·intro k i o hk ho s hg how htk hrs hup hpp hr
   rcases k with _|k
   ·obtain rfl:=Option.some.inj hk
    simp only[List.getElem?_toArray,List.getElem?_cons_zero,List.getElem?_cons_succ,Option.some.injEq] at ho;subst ho
    have e123:=(hr 123 aj).trans (rfl:_=(.mu 0 1 (0+p) (l.length-p) (l.length-p):AV))
    have e126:=(hr 126 aj).trans (rfl:_=(.sl none 1 ((l.drop p).map u8):AV))
    clear hr
    obtain⟨tm,ow0,tk0,gl0,rsv0,up0⟩:=s
    simp only[] at hg how htk hrs hup hpp;subst hg;subst how;subst htk;subst hrs;subst hup
    refine bc.call fun Q hQ=>?_
    refine al.qx (id:=0) (es:=((l.take p).map (gU bo bn)++List.replicate (l.length-p) (u8 0))) (xs:=(l.drop p).map u8) nA e123 ((congrArg (fun z=>fE z 1) e126).trans rfl) rfl (by simp;omega) aB ab ?_
    (try rw[Nat.zero_add])
    rw[vt (by simp;omega) aB,hrowE2,List.length_map,List.length_drop]
    exact hQ
   ·exact absurd hk aB
  simp only[go_sem,Go.az.gj,Go.az.dstsOf,List.map_cons,List.map_nil]
  rotate_left
  have hlt:p=l.length:=by omega
  have hrowE:=WI (bo:=bo) (bn:=bn) (l:=l) (s:=p) hlt
  refine aa.na [[],[],[],[1,2],[],[],[4,5],[1,2,3,4,5,6],[0,1,2,3,4,5,6,7],[0,1,2,3,4,5,6,7,8]] [i64 (p:Int),.mu 0 1 0 l.length l.length,i64 (p:Int),.mu 0 1 0 0 0,aU l,i64 (p:Int),.sl none 1 ((l.drop p).map u8),i64 ((l.length-p:Nat):Int),i64 (l.length:Int),i64 (l.length:Int)] [7] (fun k=>[[some ((l.take p).map (gU bo bn)++List.replicate (l.length-p) (u8 0))],[some (l.map (gU bo bn))]].getD k []) ae ae rfl rfl rfl ?_ ?_ ?_
  ·intro i o ho hi s hg how htk hrs hr
   rcases i with _|i
   ·simp only[List.getElem?_toArray,List.getElem?_cons_zero,List.getElem?_cons_succ,Option.some.injEq] at ho;subst ho
    have e11:=(hr 11 aj).trans (rfl:_=(i64 (p:Int):AV))
    refine bc.list ?_
    simp only[go_sem,e11]
    (done)
   rcases i with _|i
   ·simp only[List.getElem?_toArray,List.getElem?_cons_zero,List.getElem?_cons_succ,Option.some.injEq] at ho;subst ho
    have e10:=(hr 10 aj).trans (rfl:_=(.mu 0 1 0 l.length l.length:AV))
    refine bc.list ?_
    simp only[go_sem,e10]
    (done)
   rcases i with _|i
   ·simp only[List.getElem?_toArray,List.getElem?_cons_zero,List.getElem?_cons_succ,Option.some.injEq] at ho;subst ho
    have e11:=(hr 11 aj).trans (rfl:_=(i64 (p:Int):AV))
    refine bc.list ?_
    simp only[go_sem,e11]
    (done)
   rcases i with _|i
   ·simp only[List.getElem?_toArray,List.getElem?_cons_zero,List.getElem?_cons_succ,Option.some.injEq] at ho;subst ho
    have e121:=(hr 121 aj).trans (rfl:_=(.mu 0 1 0 l.length l.length:AV))
    have e122:=(hr 122 aj).trans (rfl:_=(i64 (p:Int):AV))
    refine bc.call fun Q hQ=>?_
    refine al.CA (e:=5) (k:=1) (off:=0) (cap:=l.length) ae ae e121 (e122.trans (by rw[hlt])) ab ?_
    exact hQ
   rcases i with _|i
   ·simp only[List.getElem?_toArray,List.getElem?_cons_zero,List.getElem?_cons_succ,Option.some.injEq] at ho;subst ho
    have e0:=(hr 0 aj).trans (rfl:_=(aU l:AV))
    refine bc.list ?_
    simp only[go_sem,e0]
    (done)
   rcases i with _|i
   ·simp only[List.getElem?_toArray,List.getElem?_cons_zero,List.getElem?_cons_succ,Option.some.injEq] at ho;subst ho
    have e12:=(hr 12 aj).trans (rfl:_=(i64 (p:Int):AV))
    refine bc.list ?_
    simp only[go_sem,e12]
    (done)
   rcases i with _|i
   ·simp only[List.getElem?_toArray,List.getElem?_cons_zero,List.getElem?_cons_succ,Option.some.injEq] at ho;subst ho
    have e124:=(hr 124 aj).trans (rfl:_=(aU l:AV))
    have e125:=(hr 125 aj).trans (rfl:_=(i64 (p:Int):AV))
    refine bc.list ?_
    simp only[go_sem,e124,e125]
    (omega)
   rcases i with _|i
   ·exact absurd aj hi
   rcases i with _|i
   ·simp only[List.getElem?_toArray,List.getElem?_cons_zero,List.getElem?_cons_succ,Option.some.injEq] at ho;subst ho
    have e120:=(hr 120 aj).trans (rfl:_=(i64 (p:Int):AV))
    have e127:=(hr 127 aj).trans (rfl:_=(i64 ((l.length-p:Nat):Int):AV))
    refine bc.list ?_
    simp only[go_sem,e120,e127]
    rw[aM ab ab]
    rw[show((p:Int)+((l.length-p:Nat):Int))=(l.length:Int) by omega]
   rcases i with _|i
   ·simp only[List.getElem?_toArray,List.getElem?_cons_zero,List.getElem?_cons_succ,Option.some.injEq] at ho;subst ho
    have e128:=(hr 128 aj).trans (rfl:_=(i64 (l.length:Int):AV))
    refine bc.list ?_
    simp only[go_sem,e128]
    (done)
   ·exact absurd ho aB
  ·intro k i o hk ho s hg how htk hrs hup hpp hr
   rcases k with _|k
   ·obtain rfl:=Option.some.inj hk
    simp only[List.getElem?_toArray,List.getElem?_cons_zero,List.getElem?_cons_succ,Option.some.injEq] at ho;subst ho
    have e123:=(hr 123 aj).trans (rfl:_=(.mu 0 1 0 0 0:AV))
    have e126:=(hr 126 aj).trans (rfl:_=(.sl none 1 ((l.drop p).map u8):AV))
    clear hr
    obtain⟨tm,ow0,tk0,gl0,rsv0,up0⟩:=s
    simp only[] at hg how htk hrs hup hpp;subst hg;subst how;subst htk;subst hrs;subst hup
    refine bc.call fun Q hQ=>?_
    refine al.KY nA e123 ((congrArg (fun z=>fE z 1) e126).trans (by rw[hlt,List.drop_length];rfl)) ?_
    rw[show goInt 0= .int .i64 ((l.length-p:Nat):Int) by rw[hlt,Nat.sub_self];rfl]
    rw[hrowE]
    exact hQ
   ·exact absurd hk aB
  simp only[go_sem,Go.az.gj,Go.az.dstsOf,List.map_cons,List.map_nil])
 |(
  refine aa.here 29 129 4 rfl ?_
  refine aa.aW ?_
  refine al.at 4 2 rfl ?_
  simp only[go_sem]
  (repeat(refine⟨⟨_,rfl⟩,?_⟩))
  refine al.Cz (e:=5) (l':=0) (h':=l.length) (k:=1) (off:=0) (cap:=l.length) ae ae rfl rfl rfl ab ab ab ?_
  simp only[Nat.add_zero,Nat.sub_zero]
  simp only[go_sem]
  refine al.of ?_
  (try simp only[go_sem]))
 |(refine aa.region ?_;simp only[go_sem])
 |(refine hK _ ?_;clear hK K)
 |refine aa.block ?_
 |refine aa.cond rfl (fun c=>?_) (fun c=>?_)<;>first|exact Bool.noConfusion c|(try simp only[dD] at c)
 |refine aa.skip ?_
 |(refine aa.exit ?_;simp only[go_sem])
 |(refine ak.one (Ff l bo hl) ae rfl ?_;simp only[go_sem])
 |(refine ak.one (Fw (l.drop p) bo (by rw[hd];simp)) ae rfl ?_;simp only[go_sem])
 |((with_reducible refine And.intro ?_ ?_);(focus(first|omega|(simp;done)));(try simp only[hb,go_sem]))
 |(
  refine aa.here 13 50 1 rfl ?_
  refine aa.dT (ι:=Nat×Nat) [13,50,51,52,53,54,55,56,57,58,59,60,61,62,63,64,65,66,67,68,69,70,71,72,73,74,75,76,77,78,79] (fun⟨i,p⟩=>[(11,i64 (p:Int)),(12,i64 (p:Int)),(49,i64 (i:Int))]) (fun⟨i,p⟩=>[some ((l.take p).map (gU bo bn)++List.replicate (l.length-p) (u8 0))]) (fun⟨i,p⟩=>[]) (fun⟨i,p⟩=>i≤l.count bo∧p≤l.length∧(l.take p).count bo=i) (fun⟨i,p⟩=>l.count bo-i) ((0,0)) ?_ ?_ ?_
  ·(try simp only[go_sem]);(repeat'((simp;done)));done
  ·exact⟨by omega,by omega,by simp⟩
  rintro⟨i,p⟩ ⟨h1,h2,h3⟩
  simp only[go_sem])
 |(
  refine⟨(i+1,p+a.length+1),?_,?_,?_⟩
  ·(try simp only[go_sem]);(try rw[aM ab ab]);(try simp only[hw2b,hw3]);(repeat'(first|exact .inr Fl|refine And.intro ?_ ?_|(simp;done)));done
  ·(try dsimp only);exact⟨by omega,by omega,WG hd h3 ha⟩
  ·(try simp only[]);omega)
 |(
  refine aa.VW 8 0 1 l.length (l.map (gU bo bn)) aB rfl KB ?_
  (try simp only[go_sem])
  refine aa.ret ?_
  refine aN.is ?_
  simp only[go_sem,aI,aH,aG,aK,aJ,aL]<;>(exact WM))
 |(
  refine aa.ret ?_
  refine aN.is ?_
  simp only[go_sem,aI,aH,aG,aK,aJ,aL]<;>((rw[WN (bn:=bn) ab];done)))
 |refine aa.fin af ?_)
end Go.Proofs.YthoonfpkfdjhiaaGreatDoor
end
section
namespace Go.Proofs.YthoonfpkfdjhiaaGreatDoor
open Go Go.az Go.RowKit Go.Bk Go.Msg Go.Txt
theorem WZ{x:Ex}(h:dj x=true):(iX (j9 x)).1≠[]∧(iX (j9 x)).1.length≤5000:=by
 obtain⟨h1,h2,_⟩:=BY h
 unfold jF at h1 h2
 rw[List.length_map] at h1 h2
 exact⟨List.length_pos_iff.1 h1,by omega⟩
theorem MD{a:Ak}(h:bA a=true)(k:a.kind=3):dj a.exec=true:=by
 rw[oa k] at h;simp only[Bool.and_eq_true] at h;exact h.2
theorem BB{a:Ak}(h:bA a=true):cb a=(Fld.bC (aV a),0):=by unfold cb;rw[if_pos h]
theorem VZ{a:Ak}(h:bA a=false):cb a=([],1):=by unfold cb;rw[h];rfl
theorem Pp{a:Ak}(h:bA a=true):ai E 26 [kB (aV a)] (fun r t=>r= .ax [.sl (some 0) 1 ((Fld.bC (aV a)).map u8),i64 0]∧t=[(Fld.bC (aV a)).length]):=by
 have:=zj (aV a)
 rw[V2 h] at this
 exact this
theorem Ox{a:Ak}(k:a.kind=1):aV a=[(1,Fld.ay a.kind),(2,Fld.ay a.bq),(3,a.ord.id),(4,a.ord.acc),(5,a.ord.sym),(6,iO a.ord.aD),(7,Fld.ay a.ord.au),(8,Fld.ay a.ord.aE)]:=by unfold aV;rw[if_pos k]
theorem Oy{a:Ak}(k:a.kind=2):aV a=[(1,Fld.ay a.kind),(2,Fld.ay a.bq),(3,a.id),(4,a.ord.id),(7,Fld.ay a.ord.au),(8,Fld.ay a.ord.aE)]:=by unfold aV;rw[if_neg ab,if_pos k]
theorem Oz{a:Ak}(k:a.kind=3):aV a=[(1,Fld.ay a.kind),(2,Fld.ay a.bq),(9,jF a.exec)]:=by unfold aV;rw[if_neg ab,if_neg ab,if_pos k]
theorem y7{a:Ak}(k:a.kind=4):aV a=[(1,Fld.ay a.kind),(10,Fld.ay a.now)]:=by unfold aV;rw[if_neg ab,if_neg ab,if_neg ab,if_pos k]
theorem OA{a:Ak}(k:a.kind=5):aV a=[(1,Fld.ay a.kind),(11,iO a.on)]:=by unfold aV;rw[if_neg ab,if_neg ab,if_neg ab,if_neg ab,if_pos k]
theorem OB{a:Ak}(k:a.kind=6):aV a=[(1,Fld.ay a.kind),(2,Fld.ay a.bq),(11,iO a.on)]:=by unfold aV;rw[if_neg ab,if_neg ab,if_neg ab,if_neg ab,if_neg ab,if_pos k]
theorem OD{a:Ak}(k:a.kind=8):aV a=[(1,Fld.ay a.kind),(4,a.lim.acc),(5,a.lim.sym),(12,Fld.ay a.lim.long),(13,Fld.ay a.lim.short),(7,Fld.ay a.lim.au),(8,Fld.ay a.lim.value)]:=by unfold aV;rw[if_neg ab,if_neg ab,if_neg ab,if_neg ab,if_neg ab,if_neg ab,if_pos k]
theorem OC{a:Ak}(k:¬a.kind=1∧¬a.kind=2∧¬a.kind=3∧¬a.kind=4∧¬a.kind=5∧¬a.kind=6∧¬a.kind=8):aV a=[(1,Fld.ay a.kind),(2,Fld.ay a.bq)]:=by
 obtain⟨h1,h2,h3,h4,h5,h6,h8⟩:=k
 unfold aV;rw[if_neg h1,if_neg h2,if_neg h3,if_neg h4,if_neg h5,if_neg h6,if_neg h8]
theorem BX(bo bn:UInt8)(l:List UInt8)(hl:l≠[])(hlen:l.length≤5000):ai E 118 [aU l,.sl none 1 [u8 bo],.sl none 1 [u8 bn]] (fun r t=>r=aU (l.map (mf bo bn))∧t=[]):=by
 refine ai.aC (n:=11) (rs:=[.tmp 6]) Tryz.func118 rfl Tryz.ntmps118 rfl ?_
 repeat'(first
 |refine aa.ah fun K hK=>?_
 |(refine aa.region ?_;simp only[go_sem])
 |(refine hK _ ?_;clear hK K)
 |(refine ak.one (WV bo bn l hl hlen) ae rfl ?_;simp only[go_sem])
 |(
  refine aa.ret ?_
  refine aN.is ?_;simp only[go_sem,aI,aH,aG,aK,aJ,aL]<;>rfl))
theorem WT(l:List UInt8)(hl:l≠[])(hlen:l.length≤5000):ai E 118 [aU l,.sl none 1 [u8 1],.sl none 1 [u8 2]] (fun r t=>r=aU (l.map rB)∧t=[]):=BX 1 2 l hl hlen
theorem RW(x:Ex)(hx:dj x=true):ai E 62 [ao x] (fun r t=>r=str (jF x)∧t=[]):=by
 obtain⟨hr1,hr2⟩:=WZ hx
 refine ai.aC (n:=16) (rs:=[.tmp 2]) Tryz.func62 rfl Tryz.ntmps62 rfl ?_
 repeat'(first
 |refine aa.ah fun K hK=>?_
 |(refine aa.region ?_;simp only[go_sem])
 |(refine hK _ ?_;clear hK K)
 |(refine ak.one (AA (j9 x)) ae rfl ?_;simp only[go_sem])
 |(refine ak.one (WT (iX (j9 x)).1 hr1 hr2) ae rfl ?_;simp only[go_sem])
 |(
  refine aa.ret ?_
  refine aN.is ?_;simp only[go_sem,aI,aH,aG,aK,aJ,aL]<;>(rfl)))
theorem Rx(a:Ak)(ha:bA a=true):ai E 27 [gq a] (fun r t=>r= .sl none 2 ((aV a).map jT)∧t=[]):=by
 refine ai.aC (n:=115) (rs:=[.tmp 2]) Tryz.func27 rfl Tryz.ntmps27 rfl ?_
 repeat'(first
 |refine aa.ah fun K hK=>?_
 |(refine aa.region ?_;simp only[go_sem])
 |(refine aa.here 1 7 8 rfl ?_;apply aa.oC (.take 0 (.take 1 (.take 2 (.fork (.alt 3 (.take 4 (.take 5 (.take 6 (.take 7 .done)))) (.alt 4 (.fork (.alt 3 (.take 5 (.take 6 (.take 7 .done))) (.alt 5 (.fork (.alt 3 (.take 6 (.take 7 .done)) (.alt 6 (.take 3 (.take 7 .done)) .ends))) .ends))) (.alt 5 (.fork (.alt 3 (.take 4 (.take 6 (.take 7 .done))) (.alt 4 (.fork (.alt 3 (.take 6 (.take 7 .done)) (.alt 6 (.take 3 (.take 7 .done)) .ends))) .ends))) .ends))))))) [[],[0],[],[2],[],[],[0,1,4,5],[0,1,2,3,4,5,6]] [3,4] ae ae aj;simp only[go_sem])
 |(refine aa.here 2 11 10 rfl ?_;refine aa.bB [0,1,3,4,6,7,2,5,8,9] [5,6] ae ae rfl ?_;simp only[go_sem])
 |(refine aa.here 5 21 22 rfl ?_;refine aa.bB [0,1,2,3,5,6,8,9,11,12,14,15,17,18,4,7,10,13,16,19,20,21] [] ae ae rfl ?_;simp only[go_sem])
 |(refine aa.here 7 44 16 rfl ?_;refine aa.bB [0,1,2,3,5,6,8,9,11,12,4,7,10,13,14,15] [] ae ae rfl ?_;simp only[go_sem])
 |(refine aa.here 9 61 8 rfl ?_;refine aa.bB [0,1,2,3,4,5,6,7] [] ae ae rfl ?_;simp only[go_sem])
 |(refine aa.here 11 70 6 rfl ?_;refine aa.bB [0,1,2,3,4,5] [] ae ae rfl ?_;simp only[go_sem])
 |(refine aa.here 13 77 6 rfl ?_;refine aa.bB [0,1,2,3,4,5] [] ae ae rfl ?_;simp only[go_sem])
 |(refine aa.here 15 84 7 rfl ?_;refine aa.bB [0,1,2,3,4,5,6] [] ae ae rfl ?_;simp only[go_sem])
 |(refine aa.here 17 92 21 rfl ?_;refine aa.bB [0,1,2,4,5,7,8,10,11,13,14,16,17,3,6,9,12,15,18,19,20] [] ae ae rfl ?_;simp only[go_sem])
 |(refine hK _ ?_;clear hK K)
 |refine aa.block ?_
 |refine aa.cond rfl (fun c=>?_) (fun c=>?_)<;>(try simp only[dD] at c)
 |refine aa.skip ?_
 |(refine ak.one (RL _ _) ae rfl ?_;simp only[go_sem])
 |(refine ak.one (vE _ _) ae rfl ?_;simp only[go_sem])
 |(refine ak.one (Ry _ _) ae rfl ?_;simp only[go_sem])
 |(refine ak.one (RW a.exec (MD ha af)) ae rfl ?_;simp only[go_sem])
 |exact rfl
 |(
  refine aa.ret ?_
  refine aN.is ?_;simp only[go_sem,aI,aH,aG,aK,aJ,aL]<;>(first
  |(rw[Ox af];rfl)|(rw[Oy af];rfl)|(rw[Oz af];rfl)|(rw[y7 af];rfl)|(rw[OA af];rfl)|(rw[OB af];rfl)|(rw[OD af];rfl)
  |(rw[OC ⟨by omega,by omega,by omega,by omega,by omega,by omega,by omega⟩];rfl))))
theorem vB(a:Ak):ai E 9 [gq a] (fun r t=>r= .ax [aU (cb a).1,i64 (cb a).2]∧t=[]):=by
 refine ai.aC (n:=18) (rs:=[.tmp 2,.tmp 3]) Tryz.func9 rfl Tryz.ntmps9 rfl ?_
 repeat'(first
 |refine aa.ah fun K hK=>?_
 |(refine aa.region ?_;simp only[go_sem])
 |(refine hK _ ?_;clear hK K)
 |refine aa.cond rfl (fun c=>?_) (fun c=>?_)<;>first|exact Bool.noConfusion c|(try simp only[dD] at c)
 |refine aa.skip ?_
 |(refine ak.one (RH a) ae rfl ?_;simp only[go_sem])
 |(refine ak.one (Rx a af) ae rfl ?_;simp only[go_sem])
 |(refine ak.of (Pp af) ae rfl ?_;rintro r t ⟨rfl,rfl⟩;simp only[go_sem])
 |(
  refine aa.ret ?_
  refine aN.is ?_;simp only[go_sem,aI,aH,aG,aK,aJ,aL]<;>(first|(rw[BB af];simp;done)|(rw[VZ af];exact⟨trivial,rfl⟩))))
end Go.Proofs.YthoonfpkfdjhiaaGreatDoor
end
section
namespace Go.Proofs.YthoonfpkfdjhiaaGreatDoor
open Go Go.az Go.RowKit Go.Bk Go.Txt
abbrev fH(n p:Int)(k:Kp.Ks Gt):AV:= .agg [i64 n,i64 p,aU k.jn.d.f0.safe,aU k.jn.d.f0.tail,aU k.jn.d.f1.safe,aU k.jn.d.f1.tail,i64 k.jn.at',i64 k.jn.gen,fe k.g.an,ct k.g.aY,bl k.g.kill,i64 k.g.now,i64 k.g.pat]
abbrev ln:AV:= .agg [i64 0,i64 0,.aw,.aw,.aw,.aw,i64 0,i64 0,.aw,.aw,bl false,i64 0,i64 0]
theorem RT{n p:Int}{k:Kp.Ks Gt}{no nt:Nat}:∀e∈[fH n p k],∀z∈e.leaves,z.bw no nt=true:=by
 intro e he z hz
 simp only[List.mem_singleton] at he
 subst he
 simp only[AV.leaves,List.mem_cons,List.not_mem_nil,or_false] at hz
 rcases hz with rfl|rfl|rfl|rfl|rfl|rfl|rfl|rfl|rfl|rfl|rfl|rfl|rfl<;>rfl
theorem kF{n p:Int}{k:Kp.Ks Gt}{no nt:Nat}:some [fH n p k]=none∨∀es,some [fH n p k]=some es→∀e∈es,∀z∈e.leaves,z.bw no nt=true:= .inr fun es h=>by cases h;exact RT
theorem abW{no nt:Nat}:∀e∈[ln],∀z∈e.leaves,z.bw no nt=true:=by
 intro e he z hz
 simp only[List.mem_singleton] at he
 subst he
 simp only[AV.leaves,List.mem_cons,List.not_mem_nil,or_false] at hz
 rcases hz with rfl|rfl|rfl|rfl|rfl|rfl|rfl|rfl|rfl|rfl|rfl|rfl|rfl<;>rfl
theorem rG{no nt:Nat}:some [ln]=none∨∀es,some [ln]=some es→∀e∈es,∀z∈e.leaves,z.bw no nt=true:= .inr fun es h=>by cases h;exact abW
theorem R1{k:Kp.Ks Gt}(h:¬(Kp.ij k.jn).2=0):Kp.ik k=(k,(Kp.ij k.jn).2):=by unfold Kp.ik;rw[if_neg h]
theorem R2{k:Kp.Ks Gt}(h:(Kp.ij k.jn).2=0):Kp.ik k=(⟨(Kp.ij k.jn).1,k.g⟩,0):=by unfold Kp.ik;rw[if_pos h]
theorem V3{a:Ak}:(cb a).2=0↔bA a=true:=by
 unfold cb
 split
 ·rename_i h;simp[h]
 ·rename_i h;simp[h]
theorem qT{a:Ak}(h:(cb a).2=0):bA a=true:=V3.1 h
theorem Rt{ask:Gt→Ak→Gt×Int×Int}{k:Kp.Ks Gt}{a:Ak}(h:¬(cb a).2=0):Kp.dJ ask k a=(k,0,(cb a).2):=by
 unfold Kp.dJ cb at *
 by_cases hm:bA a=true
 ·rw[if_pos hm] at h;exact absurd rfl h
 ·rw[if_neg hm,if_neg hm]
theorem Rr{ask:Gt→Ak→Gt×Int×Int}{k:Kp.Ks Gt}{a:Ak}(hm:bA a=true)(h:¬(ask k.g a).2.2=0):Kp.dJ ask k a=(k,0,(ask k.g a).2.2):=by unfold Kp.dJ;rw[if_pos hm,if_neg h]
theorem Rs{ask:Gt→Ak→Gt×Int×Int}{k:Kp.Ks Gt}{a:Ak}(hm:bA a=true)(h:(ask k.g a).2.2=0)(h2:¬(Kp.dP k.jn (cb a).1).2=0):Kp.dJ ask k a=(k,0,(Kp.dP k.jn (cb a).1).2):=by unfold Kp.dJ;rw[if_pos hm,if_pos h,if_neg h2]
theorem vw{ask:Gt→Ak→Gt×Int×Int}{k:Kp.Ks Gt}{a:Ak}(hm:bA a=true)(h:(ask k.g a).2.2=0)(h2:(Kp.dP k.jn (cb a).1).2=0):Kp.dJ ask k a=(⟨(Kp.dP k.jn (cb a).1).1,(ask k.g a).1⟩,(ask k.g a).2.1,0):=by unfold Kp.dJ;rw[if_pos hm,if_pos h,if_pos h2]
theorem zZ(n p:Int)(k:Kp.Ks Gt)(hg:dn k.g)(hd:ep k.jn.d):ai E 37 [fH n p k] (fun r t=>r=fH n p k∧t=[]):=by
 have hg1:=hg.1
 have hg2:=hg.2.1
 obtain⟨s0,s1,s2,s3⟩:=hd
 refine ai.aC (n:=96) (rs:=[.cell 2 57]) Tryz.func37 rfl Tryz.ntmps37 rfl ?_
 repeat'(first
 |(
  refine aa.jS hc7 ?_
  first
  |(refine aa.jE [0,1,3] aj rfl rfl ?_;simp only[go_sem,lh,List.length_map];refine aa.weaken ?_ (hc7 m);(try simp only[go_sem]);(repeat'(first|refine And.intro ?_ ?_|trivial|exact .inr (bm rfl)|exact .inr dw));done)
  |(have he:k.g.an=[]:=Classical.byContradiction fun hne=>by
     have:=hbb (by simpa using hne)
     simp_all
    refine aa.kK 0 8 8 _ rfl rfl ?_
    simp only[go_sem]
    refine aa.weaken ?_ (hc7 0);(try simp only[go_sem,he,List.length_nil,List.map_nil,kZ]);(repeat'(first|refine And.intro ?_ ?_|trivial|exact .inr (bm rfl)));done))
 |refine aa.ah fun K hK=>?_
 |(
  refine aa.here 7 32 7 rfl ?_
  ((fail_if_success(have h0:=hc7));refine aa.cutAt (ι:=Nat) [32,33,34,35,36,37] (fun(m:Nat)=>[]) (fun(m:Nat)=>[some [.agg [i64 n,i64 p,aU k.jn.d.f0.safe,aU k.jn.d.f0.tail,aU k.jn.d.f1.safe,aU k.jn.d.f1.tail,i64 k.jn.at',i64 k.jn.gen,.mu 2 8 0 k.g.an.length (k.g.an.length+m),ct k.g.aY,bl k.g.kill,i64 k.g.now,i64 k.g.pat]],some [ln],some (k.g.an.map aO++spare 8 m)]) (fun(m:Nat)=>[]) hK (fun m=>?_) (fun hc7=>?_)))
 |(refine Cut.mk ?_;simp only[go_sem])
 |(
  refine aa.here 3 9 2 rfl ?_
  obtain rfl|rfl:i=0∨i=1:=by omega
  refine aa.region ?_;simp only[go_sem])
 |(
  refine aa.here 11 45 6 rfl ?_
  obtain⟨v,hx⟩:∃v,k.g.an[i]?=some v:=⟨_,List.getElem?_eq_getElem ab⟩
  have hv:=hg.2.2 v (List.mem_of_getElem? hx)
  have hx2:(k.g.an.map aO++spare 8 m)[i]?=some (aO v):=by rw[List.getElem?_append_left (by simpa using cz hx),List.getElem?_map,hx];rfl
  refine aa.region ?_;simp only[go_sem])
 |(
  refine aa.here 13 60 11 rfl ?_
  (try rw[cL hx])
  refine aa.region ?_;simp only[go_sem])
 |(
  refine aa.here 14 70 11 rfl ?_
  (try rw[cL hx])
  refine aa.region ?_;simp only[go_sem])
 |(
  refine aa.here 15 80 9 rfl ?_
  (try rw[cL hx])
  refine aa.region ?_;simp only[go_sem])
 |(
  refine aa.here 16 88 2 rfl ?_
  (try rw[cL hx])
  refine aa.region ?_;simp only[go_sem])
 |(
  refine aa.here 18 95 2 rfl ?_
  refine aa.eT 0 8 (jd:=2) (k:=8) (n:=k.g.an.length) (cap:=k.g.an.length+m) _ (k.g.an.map aO++spare 8 m) aj rfl rfl rfl (by simp[da]) (by rw[eQ];exact fm _) ?_
  rw[eQ]
  simp only[go_sem]
  refine aa.region ?_;simp only[go_sem])
 |(
  refine aa.here 3 5 4 rfl ?_
  refine aa.aW ?_
  refine al.kJ eM ?_
  simp only[go_sem]
  refine al.at 3 1 rfl ?_
  simp only[go_sem]
  refine al.ku kf eM rfl rfl rfl (by simp;omega) (by simp;omega) ?_
  intro m
  simp only[go_sem]
  refine al.of ?_
  simp only[go_sem])
 |(refine aa.here 7 32 7 rfl ?_;refine aa.aW ?_;refine al.at 7 3 rfl ?_;simp only[go_sem])
 |(refine aa.region ?_;simp only[go_sem])
 |(refine aa.here 5 15 18 rfl ?_;refine aa.bB [0,1,2,3,4,5,7,8,9,10,6,11,12,13,14,15,16,17] [] ae ae rfl ?_;simp only[go_sem])
 |(refine hK _ ?_;clear hK K)
 |refine aa.block ?_
 |refine aa.cond rfl (fun c=>?_) (fun c=>?_)<;>(try simp only[dD] at c)
 |refine aa.skip ?_
 |(refine aa.exit ?_;simp only[go_sem])
 |(refine ak.one (nD _ ab) ae rfl ?_;simp only[go_sem])
 |(refine ak.one (eS v.book.aq hv.1) ae rfl ?_;simp only[go_sem])
 |(refine ak.one (eS v.aF hv.2.2.2) ae rfl ?_;simp only[go_sem])
 |(refine ak.one (ky v.book.av hv.2.1) ae rfl ?_;simp only[go_sem])
 |(refine ak.one (kX v.book.ids hv.2.2.1) ae rfl ?_;simp only[go_sem])
 |(refine ak.one (kH k.g.aY hg2) ae rfl ?_;simp only[go_sem])
 |(refine al.call (rs:=[.tmp 2]) Tryz.func78 rfl Tryz.ntmps78 rfl ae rfl rfl ?_;simp only[go_sem])
 |(refine aQ.ez af ?_;(try simp only[go_sem]))
 |(refine aQ.gV af ?_;(try simp only[go_sem]))
 |((with_reducible refine And.intro ?_ ?_);(focus(first|omega|(simp;done)));(try simp only[hb,go_sem]))
 |(
  refine aa.here 2 8 1 rfl ?_
  refine aa.dT (ι:=Nat) [3,4,8,9,10,11,12,13,14,15,16,17,18,19,20,21,22,23,24,25,26,27,28,29,30,31] (fun(i:Nat)=>[(7,i64 i)]) (fun(i:Nat)=>[some [fH n p k],some [ln]]) (fun(i:Nat)=>[]) (fun(i:Nat)=>i≤2) (fun(i:Nat)=>2-i) (0) ?_ ?_ ?_
  ·(try simp only[go_sem]);(try simp only[go_sem,fg,fh]);(repeat'(first|exact kF|exact rG|refine And.intro ?_ ?_))
  ·omega
  rintro i h1
  simp only[go_sem])
 |(
  refine aa.here 9 43 1 rfl ?_
  refine aa.dU (ι:=Nat) [5,6,43,44,45,46,47,48,49,50,51,52,53,54,55,56,57,58,59,60,61,62,63,64,65,66,67,68,69,70,71,72,73,74,75,76,77,78,79,80,81,82,83,84,85,86,87,88] (fun(i:Nat)=>[(42,i64 i)]) (fun(i:Nat)=>i≤k.g.an.length) (fun(i:Nat)=>k.g.an.length-i) (0) ?_ ?_ ?_
  ·(try simp only[go_sem]);(repeat'(first|refine And.intro ?_ ?_|trivial|exact .inr (bm rfl)|exact .inr dw));done
  ·omega
  rintro i h1
  simp only[go_sem])
 |(
  refine⟨1,?_,?_,?_⟩
  ·(try simp only[go_sem]);(try rw[aM ab ab]);(try simp only[go_sem,fg,fh]);(repeat'(first|exact kF|exact rG|refine And.intro ?_ ?_))
  ·omega
  ·(try simp only[]);omega)
 |(
  refine⟨2,?_,?_,?_⟩
  ·(try simp only[go_sem]);(try rw[aM ab ab]);(try simp only[go_sem,fg,fh]);(repeat'(first|exact kF|exact rG|refine And.intro ?_ ?_))
  ·omega
  ·(try simp only[]);omega)
 |(
  refine⟨i+1,?_,?_,?_⟩
  ·(try simp only[go_sem]);(try rw[aM ab ab]);(repeat'(first|refine And.intro ?_ ?_|exact .inr rfl|trivial|exact .inr (bm rfl)|exact .inr dw));done
  ·omega
  ·(try simp only[]);omega)
 |(
  refine aa.ret ?_
  refine aN.is ?_;simp only[go_sem,aI,aH,aG,aK,aJ,aL]<;>(first|fail))
 |(refine aa.ret ?_;refine bW.ret rfl ?_;simp only[go_sem])
 |(refine aa.ret ?_;simp only[fZ,fU];refine bW.ret rfl ?_;simp only[go_sem])
 |(refine al.of ?_;simp only[go_sem])
 |((fail_if_success(have:=hbb));(with_reducible intro bb hbb))
 |refine aa.fin af ?_)
theorem vD(n p:Int)(k:Kp.Ks Gt)(hg:dn k.g)(hd:ep k.jn.d):ai E 16 [fH n p k] (fun r t=>r= .ax [fH n p (Kp.ik k).1,i64 (Kp.ik k).2]∧t=[]):=by
 refine ai.aC (n:=22) (rs:=[.cell 2 57,.tmp 3]) Tryz.func16 rfl Tryz.ntmps16 rfl ?_
 repeat'(first
 |refine aa.ah fun K hK=>?_
 |(refine aa.region ?_;simp only[go_sem])
 |(refine hK _ ?_;clear hK K)
 |refine aa.cond rfl (fun c=>?_) (fun c=>?_)<;>(try simp only[dD] at c)
 |refine aa.skip ?_
 |(refine ak.one (zZ n p k hg hd) ae rfl ?_;simp only[go_sem])
 |(refine ak.one (Rk k.jn hd) ae rfl ?_;simp only[go_sem])
 |(
  refine aa.ret ?_
  refine aN.is ?_;simp only[go_sem,aI,aH,aG,aK,aJ,aL]<;>(first|(rw[R1 af];exact⟨⟨rfl,rfl,rfl,rfl,rfl,rfl,rfl,rfl,rfl,rfl,rfl⟩,rfl⟩)|(rw[R2 af];exact⟨⟨rfl,rfl,rfl,rfl,rfl,rfl,rfl,rfl,rfl,rfl,rfl⟩,rfl⟩))))
theorem z6(ask:Gt→Ak→Gt×Int×Int)(n p:Int)(k:Kp.Ks Gt)(a:Ak)(hg:dn k.g)(hd:ep k.jn.d)(hl:bA a=true→(cb a).1.length≤1000000)(hask:bA a=true→ai E 38 [bK k.g,gq a] (fun r t=>r= .ax [bK (ask k.g a).1,i64 (ask k.g a).2.1,i64 (ask k.g a).2.2]∧t=[])):ai E 14 [fH n p k,gq a] (fun r t=>r= .ax [fH n p (Kp.dJ ask k a).1,i64 (Kp.dJ ask k a).2.1,i64 (Kp.dJ ask k a).2.2]∧t=[]):=by
 refine ai.aC (n:=53) (rs:=[.cell 4 57,.tmp 5,.tmp 6]) Tryz.func14 rfl Tryz.ntmps14 rfl ?_
 repeat'(first
 |refine aa.ah fun K hK=>?_
 |(refine aa.region ?_;simp only[go_sem])
 |(refine aa.here 11 47 6 rfl ?_;apply aa.oC (.take 0 (.take 2 (.fork (.alt 1 (.take 3 (.take 4 (.take 5 .done))) (.alt 3 (.take 1 (.take 4 (.take 5 .done))) .ends))))) [[],[],[0],[0,2],[0,1,2,3],[0,1,2,3,4]] [] ae ae aj;simp only[go_sem])
 |(refine hK _ ?_;clear hK K)
 |refine aa.cond rfl (fun c=>?_) (fun c=>?_)<;>(try simp only[dD] at c)
 |refine aa.skip ?_
 |(refine ak.one (zZ n p k hg hd) ae rfl ?_;simp only[go_sem])
 |(refine ak.one (vB a) ae rfl ?_;simp only[go_sem])
 |(refine ak.one (hask (qT af)) ae rfl ?_;simp only[go_sem])
 |(refine ak.one (Re k.jn (cb a).1 hd (hl (qT af))) ae rfl ?_;simp only[go_sem])
 |exact rfl
 |(
  refine aa.ret ?_
  refine aN.is ?_;simp only[go_sem,aI,aH,aG,aK,aJ,aL]<;>(first|(rw[Rt af];exact⟨⟨rfl,rfl,rfl,rfl,rfl,rfl,rfl,rfl,rfl,rfl,rfl⟩,rfl,rfl⟩)|(rw[Rr (qT af) af];exact⟨⟨rfl,rfl,rfl,rfl,rfl,rfl,rfl,rfl,rfl,rfl,rfl⟩,rfl,rfl⟩)|(rw[Rs (qT af) af af];exact⟨⟨rfl,rfl,rfl,rfl,rfl,rfl,rfl,rfl,rfl,rfl,rfl⟩,rfl,rfl⟩)|(rw[vw (qT af) af af];exact⟨⟨rfl,rfl,rfl,rfl,rfl,rfl,rfl,rfl,rfl,rfl,rfl⟩,rfl,rfl⟩))))
end Go.Proofs.YthoonfpkfdjhiaaGreatDoor
end
section
namespace Go.Proofs.YthoonfpkfdjhiaaGreatDoor
open Go Go.az Go.RowKit Go.Bk
theorem gM{l:List Vn}{k m:Nat}{v:Vn}:((l.set k v).map aO++spare 8 m).take l.length=(l.set k v).map aO:=List.take_left' aB
theorem oD{l:List Vn}{k m:Nat}{v:Vn}(h:k<l.length):(l.map aO++spare 8 m).set k (aO v)=(l.set k v).map aO++spare 8 m:=by
 rw[List.set_append_left _ _ (by simpa using h),List.map_set]
theorem P2(g:Gt)(n:Int)(b:Bool)(hg:dn g):ai E 88 [bK g,i64 n,bl b] (fun r t=>r= .ax [bK (jU g n b).1,i64 (jU g n b).2]∧t=[]):=by
 have hgi:=hg.fit
 have hg1:=hg.1
 have hg2:=hg.2.1
 refine ai.aC (n:=23) (rs:=[.cell 6 55,.tmp 7]) Tryz.func88 rfl Tryz.ntmps88 rfl ?_
 repeat'(first
 |(
  refine aa.jS hc1 ?_
  first
  |(refine aa.jE [0,1,2,3,5] aj rfl rfl ?_;simp only[go_sem,lh,List.length_map];refine aa.weaken ?_ (hc1 m);(try simp only[go_sem]);(repeat'(first|refine And.intro ?_ ?_|trivial|exact .inr (bm rfl)|exact .inr dw));done)
  |(have he:g.an=[]:=Classical.byContradiction fun hne=>by
     have:=hbb (by simpa using hne)
     simp_all
    refine aa.kK 2 0 8 _ rfl rfl ?_
    simp only[go_sem]
    refine aa.weaken ?_ (hc1 0);(try simp only[go_sem,he,List.length_nil,List.map_nil,kZ]);(repeat'(first|refine And.intro ?_ ?_|trivial|exact .inr (bm rfl)));done))
 |refine aa.ah fun K hK=>?_
 |(
  refine aa.here 1 5 5 rfl ?_
  first
  |(have h0:=hc1;clear h0;refine aa.aW ?_;refine al.at 5 2 rfl ?_;simp only[go_sem])
  |(refine aa.cutAt (ι:=Nat) [5,6,7,8] (fun(m:Nat)=>[]) (fun(m:Nat)=>[some [.agg [fe g.an,ct g.aY,bl g.kill,i64 g.now,i64 g.pat]],some [.agg [.aw,.aw,bl false,i64 0,i64 0]],some [.agg [.mu 4 8 0 g.an.length (g.an.length+m),ct g.aY,bl g.kill,i64 g.now,i64 g.pat]],some [.agg [.aw,.aw,bl false,i64 0,i64 0]],some (g.an.map aO++spare 8 m)]) (fun(m:Nat)=>[]) hK (fun m=>?_) (fun hc1=>?_)))
 |(refine Cut.mk ?_;simp only[go_sem])
 |(
  refine aa.here 3 15 3 rfl ?_
  refine aa.eT 5 0 (jd:=4) (k:=8) (n:=g.an.length) (cap:=g.an.length+m) _ (g.an.map aO++spare 8 m) aj rfl rfl rfl (by simp[da]) (by rw[eQ];exact fm _) ?_
  rw[eQ]
  simp only[go_sem]
  refine aa.region ?_;simp only[go_sem])
 |(
  refine aa.here 4 16 7 rfl ?_
  obtain⟨k,v,rfl,hx⟩:=kD af
  have hn:=cz hx
  have hx2:(g.an.map aO++spare 8 m)[k]?=some (aO v):=by rw[List.getElem?_append_left (by simpa using cz hx),List.getElem?_map,hx];rfl
  refine aa.region ?_;simp only[go_sem])
 |(
  refine aa.here 5 22 3 rfl ?_
  rw[show(g.an.map aO++spare 8 m).set k (.agg [bz v.book.aq,dp v.book.av,.sl none 1 (v.book.ids.map str),i64 v.book.clock,i64 v.book.bad,bz v.aF,i64 v.last,bl b])=(g.an.set k ⟨v.book,v.aF,v.last,b⟩).map aO++spare 8 m from oD (v:=⟨v.book,v.aF,v.last,b⟩) hn]
  refine aa.eT 5 0 (jd:=4) (k:=8) (n:=g.an.length) (cap:=g.an.length+m) _ ((g.an.set k ⟨v.book,v.aF,v.last,b⟩).map aO++spare 8 m) aj rfl rfl rfl (by simp[da]) (by rw[gM];exact fm _) ?_
  rw[gM]
  simp only[go_sem]
  refine aa.region ?_;simp only[go_sem])
 |(
  refine aa.here 5 15 5 rfl ?_
  obtain⟨v,hx⟩:∃v,g.an[i]?=some v:=⟨_,List.getElem?_eq_getElem ab⟩
  have hv:=hg.2.2 v (List.mem_of_getElem? hx)
  have hx2:(g.an.map aO++spare 8 m)[i]?=some (aO v):=by rw[List.getElem?_append_left (by simpa using cz hx),List.getElem?_map,hx];rfl
  refine aa.region ?_;simp only[go_sem])
 |(
  refine aa.here 7 29 11 rfl ?_
  (try rw[cL hx])
  refine aa.region ?_;simp only[go_sem])
 |(
  refine aa.here 8 39 11 rfl ?_
  (try rw[cL hx])
  refine aa.region ?_;simp only[go_sem])
 |(
  refine aa.here 9 49 9 rfl ?_
  (try rw[cL hx])
  refine aa.region ?_;simp only[go_sem])
 |(
  refine aa.here 10 57 2 rfl ?_
  (try rw[cL hx])
  refine aa.region ?_;simp only[go_sem])
 |(
  refine aa.here 3 5 4 rfl ?_
  refine aa.aW ?_
  refine al.kJ eM ?_
  simp only[go_sem]
  refine al.at 3 1 rfl ?_
  simp only[go_sem]
  refine al.ku kf eM rfl rfl rfl (by simp;omega) (by simp;omega) ?_
  intro m
  simp only[go_sem]
  refine al.of ?_
  simp only[go_sem])
 |(refine aa.here 1 9 4 rfl ?_;refine aa.aW ?_;refine al.at 4 1 rfl ?_;simp only[go_sem])
 |(refine aa.region ?_;simp only[go_sem])
 |(refine hK _ ?_;clear hK K)
 |refine aa.block ?_
 |refine aa.cond rfl (fun c=>?_) (fun c=>?_)<;>(try simp only[dD] at c)
 |refine aa.skip ?_
 |(refine aa.exit ?_;simp only[go_sem])
 |(refine ak.one (jv g n hgi) ae rfl ?_;simp only[go_sem])
 |(refine ak.one (eS v.book.aq hv.1) ae rfl ?_;simp only[go_sem])
 |(refine ak.one (eS v.aF hv.2.2.2) ae rfl ?_;simp only[go_sem])
 |(refine ak.one (ky v.book.av hv.2.1) ae rfl ?_;simp only[go_sem])
 |(refine ak.one (kX v.book.ids hv.2.2.1) ae rfl ?_;simp only[go_sem])
 |(refine ak.one (kH g.aY hg2) ae rfl ?_;simp only[go_sem])
 |(refine al.call (rs:=[.cell 2 55]) Tryz.func127 rfl Tryz.ntmps127 rfl ae rfl rfl ?_;simp only[go_sem])
 |(refine al.call (rs:=[.tmp 2]) Tryz.func78 rfl Tryz.ntmps78 rfl ae rfl rfl ?_;simp only[go_sem])
 |(refine aQ.ez af ?_;(try simp only[go_sem]))
 |(refine aQ.gV af ?_;(try simp only[go_sem]))
 |((with_reducible refine And.intro ?_ ?_);(focus(first|omega|(simp;done)));(try simp only[hb,go_sem]))
 |(
  refine aa.here 3 13 1 rfl ?_
  refine aa.dU (ι:=Nat) [3,4,13,14,15,16,17,18,19,20,21,22,23,24,25,26,27,28,29,30,31,32,33,34,35,36,37,38,39,40,41,42,43,44,45,46,47,48,49,50,51,52,53,54,55,56,57] (fun(i:Nat)=>[(12,i64 i)]) (fun(i:Nat)=>i≤g.an.length) (fun(i:Nat)=>g.an.length-i) (0) ?_ ?_ ?_
  ·(try simp only[go_sem]);(repeat'(first|refine And.intro ?_ ?_|trivial|exact .inr (bm rfl)|exact .inr dw));done
  ·omega
  rintro i h1
  simp only[go_sem])
 |(
  refine⟨i+1,?_,?_,?_⟩
  ·(try simp only[go_sem]);(try rw[aM ab ab]);(repeat'(first|refine And.intro ?_ ?_|exact .inr rfl|trivial|exact .inr (bm rfl)|exact .inr dw));done
  ·omega
  ·(try simp only[]);omega)
 |(
  refine aa.ret ?_
  refine aN.is ?_;simp only[go_sem,aI,aH,aG,aK,aJ,aL]<;>(first|(rw[zm af];simp;done)|(rw[zn af hx];simp[dW];done)))
 |(refine aa.ret ?_;refine bW.ret rfl ?_;simp only[go_sem])
 |(refine aa.ret ?_;simp only[fZ,fU];refine bW.ret rfl ?_;simp only[go_sem])
 |(refine al.of ?_;simp only[go_sem])
 |((fail_if_success(have:=hbb));(with_reducible intro bb hbb))
 |refine aa.fin af ?_)
theorem P8(g:Gt)(n:Int)(hg:dn g):ai E 89 [bK g,i64 n] (fun r t=>r= .ax [bK (iY g n).1,i64 (iY g n).2]∧t=[]):=by
 have hgi:=hg.fit
 have hg1:=hg.1
 have hg2:=hg.2.1
 refine ai.aC (n:=30) (rs:=[.cell 4 55,.tmp 5]) Tryz.func89 rfl Tryz.ntmps89 rfl ?_
 repeat'(first
 |(
  refine aa.jS hc1 ?_
  first
  |(refine aa.jE [0,1,2,3,5] aj rfl rfl ?_;simp only[go_sem,lh,List.length_map];refine aa.weaken ?_ (hc1 m);(try simp only[go_sem]);(repeat'(first|refine And.intro ?_ ?_|trivial|exact .inr (bm rfl)|exact .inr dw));done)
  |(have he:g.an=[]:=Classical.byContradiction fun hne=>by
     have:=hbb (by simpa using hne)
     simp_all
    refine aa.kK 2 0 8 _ rfl rfl ?_
    simp only[go_sem]
    refine aa.weaken ?_ (hc1 0);(try simp only[go_sem,he,List.length_nil,List.map_nil,kZ]);(repeat'(first|refine And.intro ?_ ?_|trivial|exact .inr (bm rfl)));done))
 |refine aa.ah fun K hK=>?_
 |(
  refine aa.here 1 5 5 rfl ?_
  first
  |(have h0:=hc1;clear h0;refine aa.aW ?_;refine al.at 5 2 rfl ?_;simp only[go_sem])
  |(refine aa.cutAt (ι:=Nat) [5,6,7,8] (fun(m:Nat)=>[]) (fun(m:Nat)=>[some [.agg [fe g.an,ct g.aY,bl g.kill,i64 g.now,i64 g.pat]],some [.agg [.aw,.aw,bl false,i64 0,i64 0]],some [.agg [.mu 4 8 0 g.an.length (g.an.length+m),ct g.aY,bl g.kill,i64 g.now,i64 g.pat]],some [.agg [.aw,.aw,bl false,i64 0,i64 0]],some (g.an.map aO++spare 8 m)]) (fun(m:Nat)=>[]) hK (fun m=>?_) (fun hc1=>?_)))
 |(refine Cut.mk ?_;simp only[go_sem])
 |(
  refine aa.here 3 13 3 rfl ?_
  refine aa.eT 5 0 (jd:=4) (k:=8) (n:=g.an.length) (cap:=g.an.length+m) _ (g.an.map aO++spare 8 m) aj rfl rfl rfl (by simp[da]) (by rw[eQ];exact fm _) ?_
  rw[eQ]
  simp only[go_sem]
  refine aa.region ?_;simp only[go_sem])
 |(
  refine aa.here 4 14 8 rfl ?_
  obtain⟨k,v,rfl,hx⟩:=kD af
  have hn:=cz hx
  have hx2:(g.an.map aO++spare 8 m)[k]?=some (aO v):=by rw[List.getElem?_append_left (by simpa using cz hx),List.getElem?_map,hx];rfl
  refine aa.region ?_;simp only[go_sem])
 |(
  refine aa.here 5 22 3 rfl ?_
  refine aa.eT 5 0 (jd:=4) (k:=8) (n:=g.an.length) (cap:=g.an.length+m) _ (g.an.map aO++spare 8 m) aj rfl rfl rfl (by simp[da]) (by rw[eQ];exact fm _) ?_
  rw[eQ]
  simp only[go_sem]
  refine aa.region ?_;simp only[go_sem])
 |(
  refine aa.here 7 29 3 rfl ?_
  rw[show(g.an.map aO++spare 8 m).set k (.agg [bz v.book.aq,dp v.book.av,.sl none 1 (v.book.ids.map str),i64 v.book.clock,i64 0,bz v.aF,i64 v.last,bl v.bp])=(g.an.set k ⟨⟨v.book.aq,v.book.av,v.book.ids,v.book.clock,0⟩,v.aF,v.last,v.bp⟩).map aO++spare 8 m from oD (v:=⟨⟨v.book.aq,v.book.av,v.book.ids,v.book.clock,0⟩,v.aF,v.last,v.bp⟩) hn]
  refine aa.eT 5 0 (jd:=4) (k:=8) (n:=g.an.length) (cap:=g.an.length+m) _ ((g.an.set k ⟨⟨v.book.aq,v.book.av,v.book.ids,v.book.clock,0⟩,v.aF,v.last,v.bp⟩).map aO++spare 8 m) aj rfl rfl rfl (by simp[da]) (by rw[gM];exact fm _) ?_
  rw[gM]
  simp only[go_sem]
  refine aa.region ?_;simp only[go_sem])
 |(
  refine aa.here 5 15 5 rfl ?_
  obtain⟨v,hx⟩:∃v,g.an[i]?=some v:=⟨_,List.getElem?_eq_getElem ab⟩
  have hv:=hg.2.2 v (List.mem_of_getElem? hx)
  have hx2:(g.an.map aO++spare 8 m)[i]?=some (aO v):=by rw[List.getElem?_append_left (by simpa using cz hx),List.getElem?_map,hx];rfl
  refine aa.region ?_;simp only[go_sem])
 |(
  refine aa.here 7 29 11 rfl ?_
  (try rw[cL hx])
  refine aa.region ?_;simp only[go_sem])
 |(
  refine aa.here 8 39 11 rfl ?_
  (try rw[cL hx])
  refine aa.region ?_;simp only[go_sem])
 |(
  refine aa.here 9 49 9 rfl ?_
  (try rw[cL hx])
  refine aa.region ?_;simp only[go_sem])
 |(
  refine aa.here 10 57 2 rfl ?_
  (try rw[cL hx])
  refine aa.region ?_;simp only[go_sem])
 |(
  refine aa.here 3 5 4 rfl ?_
  refine aa.aW ?_
  refine al.kJ eM ?_
  simp only[go_sem]
  refine al.at 3 1 rfl ?_
  simp only[go_sem]
  refine al.ku kf eM rfl rfl rfl (by simp;omega) (by simp;omega) ?_
  intro m
  simp only[go_sem]
  refine al.of ?_
  simp only[go_sem])
 |(refine aa.here 1 7 4 rfl ?_;refine aa.aW ?_;refine al.at 4 1 rfl ?_;simp only[go_sem])
 |(refine aa.region ?_;simp only[go_sem])
 |(refine hK _ ?_;clear hK K)
 |refine aa.block ?_
 |refine aa.cond rfl (fun c=>?_) (fun c=>?_)<;>(try simp only[dD] at c)
 |refine aa.skip ?_
 |(refine aa.exit ?_;simp only[go_sem])
 |(refine ak.one (jv g n hgi) ae rfl ?_;simp only[go_sem])
 |(refine ak.one (eS v.book.aq hv.1) ae rfl ?_;simp only[go_sem])
 |(refine ak.one (eS v.aF hv.2.2.2) ae rfl ?_;simp only[go_sem])
 |(refine ak.one (ky v.book.av hv.2.1) ae rfl ?_;simp only[go_sem])
 |(refine ak.one (kX v.book.ids hv.2.2.1) ae rfl ?_;simp only[go_sem])
 |(refine ak.one (kH g.aY hg2) ae rfl ?_;simp only[go_sem])
 |(refine al.call (rs:=[.cell 2 55]) Tryz.func127 rfl Tryz.ntmps127 rfl ae rfl rfl ?_;simp only[go_sem])
 |(refine al.call (rs:=[.tmp 2]) Tryz.func78 rfl Tryz.ntmps78 rfl ae rfl rfl ?_;simp only[go_sem])
 |(refine aQ.ez af ?_;(try simp only[go_sem]))
 |(refine aQ.gV af ?_;(try simp only[go_sem]))
 |((with_reducible refine And.intro ?_ ?_);(focus(first|omega|(simp;done)));(try simp only[hb,go_sem]))
 |(
  refine aa.here 3 13 1 rfl ?_
  refine aa.dU (ι:=Nat) [3,4,13,14,15,16,17,18,19,20,21,22,23,24,25,26,27,28,29,30,31,32,33,34,35,36,37,38,39,40,41,42,43,44,45,46,47,48,49,50,51,52,53,54,55,56,57] (fun(i:Nat)=>[(12,i64 i)]) (fun(i:Nat)=>i≤g.an.length) (fun(i:Nat)=>g.an.length-i) (0) ?_ ?_ ?_
  ·(try simp only[go_sem]);(repeat'(first|refine And.intro ?_ ?_|trivial|exact .inr (bm rfl)|exact .inr dw));done
  ·omega
  rintro i h1
  simp only[go_sem])
 |(
  refine⟨i+1,?_,?_,?_⟩
  ·(try simp only[go_sem]);(try rw[aM ab ab]);(repeat'(first|refine And.intro ?_ ?_|exact .inr rfl|trivial|exact .inr (bm rfl)|exact .inr dw));done
  ·omega
  ·(try simp only[]);omega)
 |(
  refine aa.ret ?_
  refine aN.is ?_;simp only[go_sem,aI,aH,aG,aK,aJ,aL]<;>(first|(rw[B0 af];simp;done)|(rw[B1 af hx af];simp;done)|(rw[B2 af hx af];simp[dW];done)))
 |(refine aa.ret ?_;refine bW.ret rfl ?_;simp only[go_sem])
 |(refine aa.ret ?_;simp only[fZ,fU];refine bW.ret rfl ?_;simp only[go_sem])
 |(refine al.of ?_;simp only[go_sem])
 |((fail_if_success(have:=hbb));(with_reducible intro bb hbb))
 |refine aa.fin af ?_)
theorem Tc{g:Gt}{x:Lm}(h:bS g=true)(h2:¬(fx g.aY x).2=0):iR g x=(g,(fx g.aY x).2):=by unfold iR;rw[if_pos h,if_neg h2]
theorem Te{g:Gt}{x:Lm}(h:bS g=true)(h2:(fx g.aY x).2=0):iR g x=(⟨g.an,(fx g.aY x).1,g.kill,g.now,g.pat⟩,0):=by unfold iR;rw[if_pos h,if_pos h2]
theorem abX:∀(j:Nat) (z z':AV),([.aw,.aw,.aw,.v (.int .i64 0),.v (.int .i64 0),.aw,.v (.int .i64 0),.v (.bool false)]:List AV)[j]?=some z→([.sl none 8 [],.sl none 9 [],.sl none 1 [],i64 0,i64 0,.sl none 8 [],i64 0,bl false]:List AV)[j]?=some z'→z'=z∨(z= .aw∧∃q,z'= .sl none q []):=by
 intro j z z' h1 h2
 match j with
 |0=>cases h1;cases h2;exact .inr ⟨rfl,_,rfl⟩
 |1=>cases h1;cases h2;exact .inr ⟨rfl,_,rfl⟩
 |2=>cases h1;cases h2;exact .inr ⟨rfl,_,rfl⟩
 |3=>cases h1;cases h2;exact .inl rfl
 |4=>cases h1;cases h2;exact .inl rfl
 |5=>cases h1;cases h2;exact .inr ⟨rfl,_,rfl⟩
 |6=>cases h1;cases h2;exact .inl rfl
 |7=>cases h1;cases h2;exact .inl rfl
 |j+8=>simp at h1
theorem P5(n p:Int):ai E 20 [i64 n,i64 p] (fun r t=>r= .ax [bK (cA n p).1,i64 (cA n p).2]∧t=[]):=by
 refine ai.aC (n:=22) (rs:=[.cell 4 55,.tmp 5]) Tryz.func20 rfl Tryz.ntmps20 rfl ?_
 repeat'(first
 |refine aa.ah fun K hK=>?_
 |(
  refine aa.here 3 18 6 rfl ?_
  have hnn:∃m:Nat,n=(m:Int)∧1≤m∧m≤4:=⟨n.toNat,by omega,by omega,by omega⟩
  obtain⟨m,rfl,hm1,hm4⟩:=hnn
  refine aa.aW ?_
  refine al.at 6 1 rfl ?_
  simp only[go_sem]
  refine al.TB (m:=m) (zs':=[.sl none 8 [],.sl none 9 [],.sl none 1 [],i64 0,i64 0,.sl none 8 [],i64 0,bl false]) eM Dh rfl rfl rfl abX ab aj aj ?_
  simp only[go_sem]
  refine al.of ?_
  simp only[go_sem])
 |(refine aa.region ?_;simp only[go_sem])
 |(refine hK _ ?_;clear hK K)
 |refine aa.cond rfl (fun c=>?_) (fun c=>?_)<;>first|exact Bool.noConfusion c|(try simp only[dD] at c)
 |refine aa.skip ?_
 |(refine ak.one (vo _) ae rfl ?_;simp only[go_sem])
 |(refine aP.du (fun h=>?_) (fun h=>?_)<;>simp only[h,go_sem]<;>(try simp only[dD] at h))
 |(
  refine aa.ret ?_
  refine aN.is ?_;simp only[go_sem,aI,aH,aG,aK,aJ,aL,fe,ct]<;>(first|(rw[vU (.inl af)];simp;done)|(rw[vU (.inr (.inl af))];simp;done)|(rw[vU (.inr (.inr af))];simp;done)|(rw[sX ab ab af];simp[zeroV];done))))
theorem P4(g:Gt)(x:Lm)(hg:dn g)(hs:ai E 136 [ct g.aY,bD x] (fun r t=>r= .ax [ct (fx g.aY x).1,i64 (fx g.aY x).2]∧t=[])):ai E 90 [bK g,bD x] (fun r t=>r= .ax [bK (iR g x).1,i64 (iR g x).2]∧t=[]):=by
 have hgi:=hg.fit
 refine ai.aC (n:=29) (rs:=[.cell 4 55,.tmp 5]) Tryz.func90 rfl Tryz.ntmps90 rfl ?_
 repeat'(first
 |refine aa.ah fun K hK=>?_
 |(refine aa.region ?_;simp only[go_sem])
 |(refine hK _ ?_;clear hK K)
 |refine aa.cond rfl (fun c=>?_) (fun c=>?_)<;>(try simp only[dD] at c)
 |refine aa.skip ?_
 |(refine ak.one (nP g hg) ae rfl ?_;simp only[go_sem])
 |(refine ak.one (sE g hgi) ae rfl ?_;simp only[go_sem])
 |(refine ak.one (hs) ae rfl ?_;simp only[go_sem])
 |(
  refine aa.ret ?_
  refine aN.is ?_;simp only[go_sem,aI,aH,aG,aK,aJ,aL]<;>(first|(rw[Td af];simp;done)|(rw[Tc af af];simp;done)|(rw[Te af af];simp;done))))
theorem zy(g:Gt)(n:Int)(o:Od)(hg:dn g)(hn:bQ g n=false∨bY (ee o)=false):ai E 83 [bK g,i64 n,bf o] (fun r t=>r= .ax [bK g,i64 0,i64 1]∧t=[]):=by
 have hgi:=hg.fit
 refine ai.aC (n:=56) (rs:=[.cell 6 55,.tmp 7,.tmp 8]) Tryz.func83 rfl Tryz.ntmps83 rfl ?_
 repeat'(first
 |refine aa.ah fun K hK=>?_
 |(refine aa.region ?_;simp only[go_sem])
 |(refine hK _ ?_;clear hK K)
 |refine aa.cond rfl (fun c=>?_) (fun c=>?_)<;>first|exact Bool.noConfusion c|(try simp only[dD] at c)
 |refine aa.skip ?_
 |(refine ak.one (nP g hg) ae rfl ?_;simp only[go_sem])
 |(refine ak.one (jv g n hgi) ae rfl ?_;simp only[go_sem])
 |(refine ak.one (ou (ee o)) ae rfl ?_;simp only[go_sem])
 |(refine aP.split (fun h=>?_) (fun h=>?_)<;>simp only[h,go_sem]<;>(try simp only[dD] at h))
 |(
  refine aa.ret ?_
  refine aN.is ?_;simp only[go_sem,aI,aH,aG,aK,aJ,aL]<;>(first|fail))
 |(exfalso;rcases hn with hn|hn<;>simp_all;done))
end Go.Proofs.YthoonfpkfdjhiaaGreatDoor
end
section
namespace Go.Proofs.YthoonfpkfdjhiaaGreatDoor
open Go Go.az Go.RowKit Go.Bk Go.Msg Go.Txt
set_option maxRecDepth 1000000 in
theorem Lf(cap b2 o2 d:Nat)(cv:Int)(w:World)(h2:w.cell? ⟨b2,o2,none⟩=some (.int .u8 cv)):Calls Tryz.prog 194 #[.slice none 0 cap,.slice (some ⟨b2,o2,none⟩) 1 d] w fun e w'=>e= .returned (.int .i64 0)∧w'=w:=by
 have L:=Tryz.vF
 have mixed:=L.mixed
 have t0:=L.t0;have t3:=L.t3;have t4:=L.t4;have t5:=L.t5;have a0:=L.a0;have a3:=L.a3;have a4:=L.a4;have a5:=L.a5
 have z0:=L.z0;have z3:=L.z3;have z4:=L.z4;have z5:=L.z5;have v0:=L.v0;have v3:=L.v3;have v4:=L.v4;have v5:=L.v5
 go_enter Tryz.func194,Tryz.ntmps194
 go_wp2
 rw[run_callFunc_extern Tryz.func232 ae ae ae (e:=Extern.BytealgCount.count) ae,Lib.run_countNil w 0 cap cv]
 simp only[Result.andThen]
 rw[Oper.upon_value]
 go_wp2
 go_ret
 exact⟨rfl,rfl⟩
theorem Fe(c:UInt8):ai E 194 [aU [],aU [c]] (fun r t=>r=i64 0∧t=[]):=by
 intro w im vs hok hg him hpw
 obtain⟨hn,hp⟩:=hpw
 match vs,hn with
 |[v0,v1],_=>
  have h0:=hp 0 _ v0 rfl rfl
  have h1:=hp 1 _ v1 rfl rfl
  obtain⟨b2,o2,d,rfl,hb2⟩:=wT him aB h1
  have h2:w.cell? ⟨b2,o2,none⟩=some (.int .u8 c.toNat):=by simpa using hb2 0 aB
  obtain⟨a,cap,rfl,hcap,hes⟩:=h0.fu
  cases a with
  |none=>
   refine(Lf cap b2 o2 d c.toNat w h2).mono ?_
   rintro e w' ⟨rfl,rfl⟩
   exact⟨_,_,[],im,rfl,kb (Go.RowKit.Below.refl _ _),.refl _,fun _ _ _=>rfl,him,⟨by simp,by simp⟩,.base (.v _),rfl,rfl⟩
  |some a=>
   refine(Tryz.bytes_Count_one_at a 0 cap b2 o2 d [] c.toNat w rfl (by intro i hi;omega) h2).mono ?_
   rintro e w' ⟨rfl,rfl⟩
   exact⟨_,_,[],im,rfl,kb (Go.RowKit.Below.refl _ _),.refl _,fun _ _ _=>rfl,him,⟨by simp,by simp⟩,.base (.v _),rfl,rfl⟩
theorem WU(bo bn:UInt8):ai E 161 [aU [],.sl none 1 [u8 bo],.sl none 1 [u8 bn],i64 (-1)] (fun r t=>r=aU []∧t=[]):=by
 refine ai.aC (n:=132) (rs:=[.tmp 8]) Tryz.func161 rfl Tryz.ntmps161 rfl ?_
 repeat'(first
 |refine aa.ah fun K hK=>?_
 |(refine aa.region ?_;simp only[go_sem])
 |(refine hK _ ?_;clear hK K)
 |refine aa.cond rfl (fun c=>?_) (fun c=>?_)<;>first|exact Bool.noConfusion c|(try simp only[dD] at c)
 |(refine ak.one (Fe bo) ae rfl ?_;simp only[go_sem])
 |(
  refine aa.ret ?_
  refine aN.is ?_;simp only[go_sem,aI,aH,aG,aK,aJ,aL]<;>(first|fail)))
theorem WR(bo bn:UInt8):ai E 118 [aU [],.sl none 1 [u8 bo],.sl none 1 [u8 bn]] (fun r t=>r=aU []∧t=[]):=by
 refine ai.aC (n:=11) (rs:=[.tmp 6]) Tryz.func118 rfl Tryz.ntmps118 rfl ?_
 repeat'(first
 |refine aa.ah fun K hK=>?_
 |(refine aa.region ?_;simp only[go_sem])
 |(refine hK _ ?_;clear hK K)
 |(refine ak.one (WU bo bn) ae rfl ?_;simp only[go_sem])
 |(
  refine aa.ret ?_
  refine aN.is ?_;simp only[go_sem,aI,aH,aG,aK,aJ,aL]<;>(first|fail)))
theorem WS(s:List UInt8)(hs:s.length≤5000):ai E 118 [aU s,.sl none 1 [u8 2],.sl none 1 [u8 1]] (fun r t=>r=aU (s.map lf)∧t=[]):=by
 by_cases h:s=[]
 ·subst h;exact WR 2 1
 ·exact BX 2 1 s h hs
end Go.Proofs.YthoonfpkfdjhiaaGreatDoor
end
section
namespace Go.Proofs.YthoonfpkfdjhiaaGreatDoor
open Go Go.az Go.RowKit Go.Fld
theorem LJ(l:Bs)(c:UInt8):Lib.cut l [c]=match cQ c l with|none=>(l,[],false)|some p=>(p.1,p.2,true):=by
 have hi:Lib.index l [c]=Lib.indexByte l c:=by
  induction l with
  |nil=>rfl
  |cons b l ih=>
   unfold Lib.index Lib.indexByte
   rw[ih]
   have:[c].isPrefixOf (b::l)=(b==c):=by
    simp only[List.isPrefixOf,Bool.and_true]
    rw[Bool.eq_iff_iff,beq_iff_eq,beq_iff_eq];exact eq_comm
   rw[this]
 unfold Lib.cut
 rw[hi,qM]
 cases h:cQ c l with
 |none=>rfl
 |some p=>
  obtain⟨a,b⟩:=p
  obtain⟨h1,_⟩:=lH.1 h
  have e:l.drop (a.length+1)=b:=by rw[h1,←List.drop_drop,List.drop_left];rfl
  have e2:l.take a.length=a:=by rw[h1,List.take_left]
  show(if 0≤(a.length:Int) then(l.take a.length,l.drop (a.length+1),true) else(l,[],false))=(a,b,true)
  rw[if_pos ab,e,e2]
theorem XA(s:Bs)(c:UInt8)(hs:s.length<4294967281):ai E 124 [str s,str [c]] (fun r t=>t=[]∧r=match cQ c s with|none=> .ax [str s,str [],bl false]|some p=> .ax [str p.1,str p.2,bl true]):=by
 have hsz:(⟨s.toArray⟩:ByteArray).size=s.length:=by simp[ByteArray.size]
 exact ai.s4 (E:=E) (f:=124) (xs:=[.string ⟨s.toArray⟩,.string ⟨[c].toArray⟩]) (S:=fun v=>v= .tuple #[.string ⟨(Lib.cut s [c]).1.toArray⟩,.string ⟨(Lib.cut s [c]).2.1.toArray⟩,.bool (Lib.cut s [c]).2.2])
  (fun w hok=>by
    obtain⟨m,hm⟩:=hok.2.2
    exact(Tryz.strings_Cut ⟨s.toArray⟩ ⟨[c].toArray⟩ m w (by rw[hsz];exact hs) hm).mono (by
     rintro e w' ⟨rfl,n,rfl⟩
     exact⟨⟨_,rfl,rfl⟩,kb (below_drewN w n)⟩))
  (by
    rintro v rfl
    refine⟨_,fun _=>ZP _ _ _,rfl,?_⟩
    rw[LJ]
    cases cQ c s<;>rfl)
set_option maxRecDepth 100000 in
theorem QA(cap:Nat)(cv:Int)(w:World):Calls Tryz.prog 70 #[.slice none 0 cap,.int .u8 cv] w fun e w'=>e= .returned (.int .i64 (-1))∧w'=w:=by
 have L:=Tryz.Ae
 have t3:=L.t3;have t5:=L.t5;have t37:=L.t37
 have a3:=L.a3;have a5:=L.a5;have a37:=L.a37
 have mixed:=L.mixed;have z3:=L.z3;have v3:=L.v3;have z5:=L.z5;have v5:=L.v5;have z37:=L.z37;have v37:=L.v37
 go_enter Tryz.func70,Tryz.ntmps70
 go_wp2
 rw[run_callFunc_extern Tryz.func123 ae ae ae (e:=Extern.BytealgIndexByte.indexByte) ae,Lib.run_indexByteNil w 0 cap cv]
 simp only[Result.andThen]
 rw[Oper.upon_value]
 go_wp2
 go_ret
 exact⟨rfl,rfl⟩
theorem E5(l:Bs)(c:UInt8):ai E 70 [aU l,.v (.int .u8 c.toNat)] (fun r t=>r=i64 (Lib.indexByte l c)∧t=[]):=by
 intro w im vs hok hg him hpw
 obtain⟨hn,hp⟩:=hpw
 match vs,hn with
 |[v0,v1],_=>
  have h0:=hp 0 _ v0 rfl rfl
  have h1:=hp 1 _ v1 rfl rfl
  cases h1
  have fin:∀(z:Int),z=Lib.indexByte l c→∀(e:Ending) (w':World),(e= .returned (.int .i64 z)∧w'=w)→∃v r tks im',e= .returned v∧Go.az.Below E.dr w.heap.size w w'∧im.le im'∧(∀(b o:Nat),b<w.heap.size→im' b o=im b o)∧
   (∀(b o:Nat) (x:Value),im' b o=some x→w'.cell? ⟨b,o,none⟩=some x)∧kr im' w.heap.size w' tks∧VR ⟨[],tks,im'⟩ r v∧(r=i64 (Lib.indexByte l c)∧tks.map (·.tail)=[]):=by
   rintro z rfl e w' ⟨rfl,rfl⟩
   exact⟨_,_,[],im,rfl,kb (Go.RowKit.Below.refl _ _),.refl _,fun _ _ _=>rfl,him,⟨by simp,by simp⟩,.base (.v _),rfl,rfl⟩
  obtain⟨a,cap,rfl,hcap,hes⟩:=h0.fu
  cases a with
  |none=>
   have hl:l=[]:=by
    rcases hes with h|⟨b,o,h,_⟩
    ·simpa using h
    ·cases h
   subst hl
   exact(QA cap _ w).mono fun e w' h=>fin _ rfl e w' h
  |some a=>
   refine(Tryz.bytes_IndexByte_at a (l.map u8).length cap (l.map fun b=>(b.toNat:Int)) c.toNat w aB ?_).mono fun e w' h=>fin _ ?_ e w' h
   ·intro i hi
    rcases hes with h|⟨b,o,h,hk,cv,hm,h1,hv⟩
    ·rw[h] at hi;simp at hi
    ·cases h
     have hi':i<l.length:=by simpa using hi
     have hx:l[i]?=some l[i]:=List.getElem?_eq_getElem hi'
     have he:(l.map u8)[i]?=some (u8 l[i]):=by rw[List.getElem?_map,hx];rfl
     have h2:=hm i _ 0 _ he rfl
     have h3:=hv i _ 0 _ he rfl
     have h4:=him _ _ _ h2
     have h5:cv i 0= .int .u8 (l[i].toNat:Nat):=by
      generalize cv i 0=z at h3
      cases h3;rfl
     rw[h5] at h4
     have h6:(l.map fun b=>(b.toNat:Int)).getD i 0=(l[i].toNat:Int):=by
      rw[List.getD_eq_getElem?_getD,List.getElem?_map,hx];rfl
     rw[h6]
     simp only[Nat.mul_one,Nat.add_zero] at h4
     simp only[Addr.add]
     split
     ·rename_i h0;subst h0;simpa using h4
     ·exact h4
   ·have:Lib.bytesOf (l.map fun b=>(b.toNat:Int))=l:=by
     unfold Lib.bytesOf
     rw[List.map_map]
     conv=>rhs;rw[←List.map_id l]
     apply List.map_congr_left
     intro b _
     simp
    rw[this];simp
theorem xY(a b:List UInt8):ai E 36 [aU a,aU b] (fun r t=>r=bl (decide (a=b))∧t=[]):=by
 refine ai.aC (n:=10) (rs:=[.tmp 4]) Tryz.func36 rfl Tryz.ntmps36 rfl ?_
 repeat'(first
 |refine aa.ah fun K hK=>?_
 |(refine aa.region ?_;simp only[go_sem])
 |(refine hK _ ?_;clear hK K)
 |(
  refine aa.ret ?_
  refine aN.is ?_;simp only[go_sem,aI,aH,aG,aK,aJ,aL]<;>(simp[])))
end Go.Proofs.YthoonfpkfdjhiaaGreatDoor
end
section
namespace Go.Proofs.YthoonfpkfdjhiaaGreatDoor
open Go Go.az Go.RowKit Go.Fld
theorem Ps(s:Bs)(hs:s.length<4294967281):ai E 71 [str s] (fun r t=>r= .ax [jT (ib s).1,bl (ib s).2]∧t=[]):=by
 refine ai.aC (n:=41) (rs:=[.cell 2 83,.tmp 3]) Tryz.func71 rfl Tryz.ntmps71 rfl ?_
 refine aa.ah fun K1 hK1=>?_
 refine aa.region ?_
 simp only[go_sem]
 refine hK1 _ ?_;clear hK1 K1
 refine aa.ah fun K2 hK2=>?_
 refine aa.region ?_
 simp only[go_sem]
 repeat'((refine ak.of (XA _ 61 ab) ae rfl ?_;rintro r t ⟨rfl,rfl⟩<;>rcases hc:cQ 61 s with _|⟨a,v⟩<;>simp only[hc]<;>simp only[go_sem]))
 all_goals(
  refine hK2 _ ?_;clear hK2 K2
  refine aa.ah fun K3 hK3=>?_
  refine aa.ah fun K4 hK4=>?_
  refine aa.region ?_
  simp only[go_sem]
  refine hK4 _ ?_;clear hK4 K4
  refine aa.cond rfl (fun c17=>?_) (fun c17=>?_)
  ·first|exact Bool.noConfusion c17|(
    try simp only[dD] at c17
    refine aa.ah fun K5 hK5=>?_
    refine aa.region ?_
    simp only[go_sem]
    refine hK5 _ ?_;clear hK5 K5
    refine aa.ret ?_
    try simp only[go_sem]
    clear hK3 K3
    (exact⟨[],.ax [.agg [.v _,.v _],.v _],rfl,⟨⟨rfl,rfl,trivial⟩,rfl,trivial⟩,by rw[BP hc],rfl⟩))
  ·first|exact Bool.noConfusion c17|(
    try simp only[dD] at c17
    refine aa.skip ?_
    refine hK3 _ ?_;clear hK3 K3
    refine aa.ah fun K6 hK6=>?_
    refine aa.region ?_
    simp only[go_sem]
    repeat'((refine ak.one (AQ _) ae rfl ?_;simp only[go_sem]))
    refine hK6 _ ?_;clear hK6 K6
    refine aa.ah fun K7 hK7=>?_
    refine aa.ah fun K8 hK8=>?_
    refine aa.region ?_
    simp only[go_sem]
    repeat'(first|(refine aP.du (fun h=>?_) (fun h=>?_)<;>simp only[h,go_sem]<;>try simp only[dD] at h)|(refine aP.split (fun h=>?_) (fun h=>?_)<;>simp only[h,go_sem]<;>try simp only[dD] at h))
    all_goals(
     refine hK8 _ ?_;clear hK8 K8
     refine aa.cond rfl (fun c33=>?_) (fun c33=>?_)
     ·(
       try simp only[dD] at c33
       refine aa.ah fun K9 hK9=>?_
       refine aa.region ?_
       simp only[go_sem]
       refine hK9 _ ?_;clear hK9 K9
       refine aa.ret ?_
       try simp only[go_sem]
       clear hK7 K7
       (exact⟨[],.ax [.agg [.v _,.v _],.v _],rfl,⟨⟨rfl,rfl,trivial⟩,rfl,trivial⟩,by rw[BO hc ab],rfl⟩))
     ·first|exact Bool.noConfusion c33|(
       try simp only[dD] at c33
       refine aa.skip ?_
       refine hK7 _ ?_;clear hK7 K7
       refine aa.ah fun K10 hK10=>?_
       refine aa.region ?_
       simp only[go_sem]
       refine hK10 _ ?_;clear hK10 K10
       refine aa.ah fun K11 hK11=>?_
       refine aa.bB [0,1,2,3,4] [] ae ae rfl ?_
       simp only[go_sem]
       repeat'((refine ak.one (zk (_,_)) ae rfl ?_;simp only[go_sem]))
       refine hK11 _ ?_;clear hK11 K11
       refine aa.ret ?_
       try simp only[go_sem]
       (exact⟨[],.ax [.agg [.v _,.v _],.v _],rfl,⟨⟨rfl,rfl,trivial⟩,rfl,trivial⟩,by rw[BN hc ab],rfl⟩)))))
theorem zi(b:Bs):ai E 34 [aU b] (fun r t=>r= .ax [.sl (some 0) 2 ((bF b).1.map jT),i64 (bF b).2]∧t=[(bF b).1.length]):=by
 refine ai.aC (n:=40) (rs:=[.tmp 2,.tmp 3]) Tryz.func34 rfl Tryz.ntmps34 rfl ?_
 refine aa.ah fun K1 hK1=>?_
 refine aa.region ?_
 simp only[go_sem]
 refine hK1 _ ?_;clear hK1 K1
 refine aa.ah fun K2 hK2=>?_
 refine aa.ah fun K3 hK3=>?_
 refine aa.region ?_
 simp only[go_sem]
 repeat'(((with_reducible refine And.intro ?_ ?_);(focus(((simp;done))));(try simp only[hb,go_sem])))
 refine hK3 _ ?_;clear hK3 K3
 refine aa.cond rfl (fun c10=>?_) (fun c10=>?_)
 ·(
   try simp only[dD] at c10
   refine aa.ah fun K4 hK4=>?_
   refine aa.region ?_
   simp only[go_sem]
   refine hK4 _ ?_;clear hK4 K4
   refine aa.ret ?_
   try simp only[go_sem]
   clear hK2 K2
   (exact⟨[(false,2)],.ax [.sl (some 0) 2 [],.v _],rfl,⟨rfl,rfl,trivial⟩,by rw[Br ab];rfl,by rw[Br ab];rfl⟩))
 ·(
   try simp only[dD] at c10
   refine aa.skip ?_
   refine hK2 _ ?_;clear hK2 K2
   refine aa.ah fun K5 hK5=>?_
   refine aa.region ?_
   simp only[go_sem]
   refine hK5 _ ?_;clear hK5 K5
   refine aa.ah fun K6 hK6=>?_
   refine aa.block ?_
   refine aa.pI 4 2 rfl ?_
   simp only[go_sem]
   refine aa.vN (ι:=List Fld.Fd×Bs) [2,3,5,6,7,11,12,13,14,15,16,17,18,19,20,21,22,23,24,25,26,27,28,29,30,31,32,33,34,35,36,37,38] (fun⟨acc,rest⟩=>[(0,aU rest),(4,.sl (some 0) 2 (acc.map jT))]) (fun⟨acc,rest⟩=>[]) (fun⟨acc,rest⟩=>[acc.length]) (fun⟨acc,rest⟩=>dH [] b=dH acc rest∧acc.length≤100∧rest.length≤65536) (fun⟨acc,rest⟩=>rest.length) (([],b)) ?_ ?_ ?_
   ·(try simp only[go_sem]);try(simp;done)
   ·exact⟨rfl,by simp,by omega⟩
   rintro⟨acc,rest⟩ ⟨h1,h2,h3⟩
   simp only[go_sem]
   refine aa.ah fun K7 hK7=>?_
   refine aa.ah fun K8 hK8=>?_
   refine aa.region ?_
   simp only[go_sem]
   repeat'(((with_reducible refine And.intro ?_ ?_);(focus(((simp;done))));(try simp only[hb,go_sem])))
   refine hK8 _ ?_;clear hK8 K8
   refine aa.cond rfl (fun c13=>?_) (fun c13=>?_)
   ·(
     try simp only[dD] at c13
     refine aa.skip ?_
     refine hK7 _ ?_;clear hK7 K7
     refine aa.block ?_
     refine aa.ah fun K9 hK9=>?_
     refine aa.region ?_
     simp only[go_sem]
     repeat'((refine ak.one (E5 _ 1) ae rfl ?_;simp only[go_sem]))
     have hi:=qM (c:=1) (l:=rest)
     rcases hc:cQ 1 rest with _|⟨a,v⟩<;>(try simp only[hc] at hi)<;>(try simp only[hi])
     all_goals(
      refine hK9 _ ?_;clear hK9 K9
      refine aa.ah fun K10 hK10=>?_
      refine aa.ah fun K11 hK11=>?_
      refine aa.region ?_
      simp only[go_sem]
      refine hK11 _ ?_;clear hK11 K11
      refine aa.cond rfl (fun c17=>?_) (fun c17=>?_)
      ·first|exact Bool.noConfusion c17|(
        try simp only[dD] at c17
        refine aa.ah fun K12 hK12=>?_
        refine aa.region ?_
        simp only[go_sem]
        refine hK12 _ ?_;clear hK12 K12
        refine aa.ret ?_
        try simp only[go_sem]
        clear hK10 K10 hK6 K6
        (exact⟨[(false,2)],.ax [.sl (some 0) 2 [],.v _],rfl,⟨rfl,rfl,trivial⟩,by rw[Bu ab h1 ab hc];rfl,by rw[Bu ab h1 ab hc];rfl⟩))
      ·first|exact Bool.noConfusion c17|(
        try simp only[dD] at c17
        refine aa.skip ?_
        refine hK10 _ ?_;clear hK10 K10
        refine aa.ah fun K13 hK13=>?_
        obtain⟨ht,hd,hn⟩:=LL hc
        refine aa.region ?_
        simp only[go_sem]
        repeat'(first|(refine ak.one (Ps _ (by simp only[List.length_take];omega)) ae rfl ?_;simp only[go_sem])|((with_reducible refine And.intro ?_ ?_);(focus((omega)));(try simp only[hb,go_sem])))
        refine hK13 _ ?_;clear hK13 K13
        refine aa.ah fun K14 hK14=>?_
        refine aa.ah fun K15 hK15=>?_
        refine aa.region ?_
        simp only[go_sem]
        refine hK15 _ ?_;clear hK15 K15
        refine aa.cond rfl (fun eV=>?_) (fun eV=>?_)
        ·(
          try simp only[dD] at eV
          refine aa.ah fun K16 hK16=>?_
          refine aa.region ?_
          simp only[go_sem]
          refine hK16 _ ?_;clear hK16 K16
          refine aa.ret ?_
          try simp only[go_sem]
          clear hK14 K14 hK6 K6
          (exact⟨[(false,2)],.ax [.sl (some 0) 2 [],.v _],rfl,⟨rfl,rfl,trivial⟩,by rw[Bq ab h1 hc (BL (by rw[ht] at eV;exact eV))];rfl,by rw[Bq ab h1 hc (BL (by rw[ht] at eV;exact eV))];rfl⟩))
        ·(
          try simp only[dD] at eV
          refine aa.skip ?_
          refine hK14 _ ?_;clear hK14 K14
          refine aa.ah fun K17 hK17=>?_
          refine aa.ah fun K18 hK18=>?_
          refine aa.region ?_
          simp only[go_sem]
          repeat'(((with_reducible refine And.intro ?_ ?_);(focus(((simp;done))));(try simp only[hb,go_sem])))
          refine hK18 _ ?_;clear hK18 K18
          refine aa.cond rfl (fun c30=>?_) (fun c30=>?_)
          ·(
            try simp only[dD] at c30
            refine aa.ah fun K19 hK19=>?_
            refine aa.region ?_
            simp only[go_sem]
            refine hK19 _ ?_;clear hK19 K19
            refine aa.ret ?_
            try simp only[go_sem]
            clear hK17 K17 hK6 K6
            (exact⟨[(false,2)],.ax [.sl (some 0) 2 [],.v _],rfl,⟨rfl,rfl,trivial⟩,by rw[Bt ab h1 hc (wy (by rw[ht] at eV;exact eV)) ab];rfl,by rw[Bt ab h1 hc (wy (by rw[ht] at eV;exact eV)) ab];rfl⟩))
          ·(
            try simp only[dD] at c30
            refine aa.skip ?_
            refine hK17 _ ?_;clear hK17 K17
            refine aa.ah fun K20 hK20=>?_
            refine aa.region ?_
            simp only[go_sem]
            repeat'(((with_reducible refine And.intro ?_ ?_);(focus((omega)));(try simp only[hb,go_sem])))
            refine hK20 _ ?_;clear hK20 K20
            refine aa.region ?_
            simp only[go_sem]
            repeat'(((with_reducible refine And.intro ?_ ?_);(focus((first|omega|(rw[aM ab ab];omega))));(try simp only[hb,go_sem])))
            clear hK6 K6
            refine⟨(acc++[(ib a).1],v),?_,?_,?_⟩
            ·rw[aM ab ab,ht]
             refine⟨⟨.inr ?_,.inr ?_⟩,?_⟩
             ·show aU v=_;rw[show((a.length:Int)+1).toNat=a.length+1 from by omega,hd]
             ·simp
             ·simp
            ·exact⟨VM h1 hc (wy (by rw[ht] at eV;exact eV)) ab,by simp;omega,(show v.length≤65536 by omega)⟩
            ·show v.length<rest.length;omega)))))
   ·(
     try simp only[dD] at c13
     refine aa.exit ?_
     simp only[go_sem]
     clear hK7 K7
     refine hK6 _ ?_;clear hK6 K6
     refine aa.ah fun K21 hK21=>?_
     refine aa.region ?_
     simp only[go_sem]
     refine hK21 _ ?_;clear hK21 K21
     refine aa.ret ?_
     try simp only[go_sem]
     (exact⟨[(true,0)],.ax [.sl (some 0) 2 _,.v _],rfl,⟨⟨rfl,rfl,rfl⟩,rfl,trivial⟩,by rw[Go.Fld.tf ab h1 ab],by rw[Go.Fld.tf ab h1 ab];rfl⟩)))
theorem u5(l:List Fld.Fd)(tag:Int)(hl:l.length≤9223372036854775807):ai E 73 [kB l,i64 tag] (fun r t=>r= .ax [str (bN l tag).1,bl (bN l tag).2]∧t=[]):=by
 refine ai.aC (n:=21) (rs:=[.tmp 4,.tmp 5]) Tryz.func73 rfl Tryz.ntmps73 rfl ?_
 refine aa.ah fun K1 hK1=>?_
 refine aa.region ?_
 simp only[go_sem]
 refine hK1 _ ?_;clear hK1 K1
 refine aa.ah fun K2 hK2=>?_
 refine aa.ah fun K3 hK3=>?_
 refine aa.region ?_
 simp only[go_sem]
 repeat'(((with_reducible refine And.intro ?_ ?_);(focus(((simp;done))));(try simp only[hb,go_sem])))
 refine hK3 _ ?_;clear hK3 K3
 refine aa.block ?_
 refine aa.mN (ι:=Nat) [4,5,7,11,12,13,14,15,16,17,18,19,20] (fun(i:Nat)=>[(10,i64 i)]) (fun(i:Nat)=>i≤l.length∧bN l tag=bN (l.drop i) tag) (fun(i:Nat)=>l.length-i) (0) ?_ ?_ ?_
 ·(try simp only[go_sem]);try(simp;done)
 ·exact⟨by omega,rfl⟩
 rintro i ⟨h1,h2⟩
 simp only[go_sem]
 refine aa.ah fun K4 hK4=>?_
 refine aa.region ?_
 simp only[go_sem]
 refine hK4 _ ?_;clear hK4 K4
 refine aa.ah fun K5 hK5=>?_
 refine aa.cond rfl (fun c11=>?_) (fun c11=>?_)
 ·(
   try simp only[dD] at c11
   refine aa.skip ?_
   refine hK5 _ ?_;clear hK5 K5
   refine aa.ah fun K6 hK6=>?_
   refine aa.block ?_
   refine aa.ah fun K7 hK7=>?_
   refine aa.region ?_
   simp only[go_sem]
   repeat'(((refine aQ.nth ?_ (fun b hb=>?_));(focus((omega)));(try simp only[hb,go_sem])))
   refine hK7 _ ?_;clear hK7 K7
   refine aa.ah fun K8 hK8=>?_
   refine aa.region ?_
   simp only[go_sem]
   refine hK8 _ ?_;clear hK8 K8
   refine aa.cond rfl (fun c17=>?_) (fun c17=>?_)
   ·(
     try simp only[dD] at c17
     refine aa.ah fun K9 hK9=>?_
     refine aa.region ?_
     simp only[go_sem]
     refine hK9 _ ?_;clear hK9 K9
     refine aa.ret ?_
     try simp only[go_sem]
     clear hK6 K6 hK2 K2
     (exact⟨[],.ax [.v _,.v _],rfl,⟨rfl,rfl,trivial⟩,by rw[P0 h2 hb c17],rfl⟩))
   ·(
     try simp only[dD] at c17
     refine aa.skip ?_
     refine hK6 _ ?_;clear hK6 K6
     refine aa.region ?_
     simp only[go_sem]
     clear hK2 K2
     refine⟨i+1,?_,?_,?_⟩
     ·(try simp only[go_sem]);(try rw[aM ab ab]);simp
     ·exact⟨by omega,P1 h2 hb af⟩
     ·omega))
 ·(
   try simp only[dD] at c11
   refine aa.exit ?_
   simp only[go_sem]
   clear hK5 K5
   refine hK2 _ ?_;clear hK2 K2
   refine aa.ah fun K10 hK10=>?_
   refine aa.region ?_
   simp only[go_sem]
   refine hK10 _ ?_;clear hK10 K10
   refine aa.ret ?_
   try simp only[go_sem]
   (exact⟨[],.ax [.v _,.v _],rfl,⟨rfl,rfl,trivial⟩,by rw[PZ h2 c11],rfl⟩))
theorem zg(l:List Fld.Fd)(tag:Int)(hl:l.length≤9223372036854775807):ai E 75 [kB l,i64 tag] (fun r t=>r= .ax [i64 (lY l tag).1,bl (lY l tag).2]∧t=[]):=by
 refine ai.aC (n:=26) (rs:=[.tmp 4,.tmp 5]) Tryz.func75 rfl Tryz.ntmps75 rfl ?_
 refine aa.ah fun K1 hK1=>?_
 refine aa.region ?_
 simp only[go_sem]
 refine hK1 _ ?_;clear hK1 K1
 refine aa.ah fun K2 hK2=>?_
 refine aa.region ?_
 simp only[go_sem]
 repeat'((refine ak.one (u5 _ _ ab) ae rfl ?_;simp only[go_sem]))
 refine hK2 _ ?_;clear hK2 K2
 refine aa.ah fun K3 hK3=>?_
 refine aa.ah fun K4 hK4=>?_
 refine aa.region ?_
 simp only[go_sem]
 refine hK4 _ ?_;clear hK4 K4
 refine aa.cond rfl (fun c17=>?_) (fun c17=>?_)
 ·(
   try simp only[dD] at c17
   refine aa.ah fun K5 hK5=>?_
   refine aa.region ?_
   simp only[go_sem]
   refine hK5 _ ?_;clear hK5 K5
   refine aa.ret ?_
   try simp only[go_sem]
   clear hK3 K3
   (exact⟨[],.ax [.v _,.v _],rfl,⟨rfl,rfl,trivial⟩,by unfold lY;rw[if_neg (by rw[(by assumption:(bN l tag).2=false)];simp)],rfl⟩))
 ·(
   try simp only[dD] at c17
   refine aa.skip ?_
   refine hK3 _ ?_;clear hK3 K3
   refine aa.ah fun K6 hK6=>?_
   refine aa.region ?_
   simp only[go_sem]
   repeat'((refine ak.one (AQ _) ae rfl ?_;simp only[go_sem]))
   refine hK6 _ ?_;clear hK6 K6
   refine aa.ah fun K7 hK7=>?_
   refine aa.ah fun K8 hK8=>?_
   refine aa.region ?_
   simp only[go_sem]
   refine hK8 _ ?_;clear hK8 K8
   refine aa.cond rfl (fun c24=>?_) (fun c24=>?_)
   ·(
     try simp only[dD] at c24
     refine aa.ah fun K9 hK9=>?_
     refine aa.region ?_
     simp only[go_sem]
     refine hK9 _ ?_;clear hK9 K9
     refine aa.ret ?_
     try simp only[go_sem]
     clear hK7 K7
     (exact⟨[],.ax [.v _,.v _],rfl,⟨rfl,rfl,trivial⟩,by unfold lY;rw[if_pos c17,if_neg c24],rfl⟩))
   ·(
     try simp only[dD] at c24
     refine aa.skip ?_
     refine hK7 _ ?_;clear hK7 K7
     refine aa.ah fun K10 hK10=>?_
     refine aa.region ?_
     simp only[go_sem]
     refine hK10 _ ?_;clear hK10 K10
     refine aa.ret ?_
     try simp only[go_sem]
     (exact⟨[],.ax [.v _,.v _],rfl,⟨rfl,rfl,trivial⟩,by unfold lY;rw[if_pos c17,if_pos c24],rfl⟩)))
end Go.Proofs.YthoonfpkfdjhiaaGreatDoor
end
section
namespace Go.Proofs.YthoonfpkfdjhiaaGreatDoor
open Go Go.az Go.RowKit Go.Bk Go.Msg
end Go.Proofs.YthoonfpkfdjhiaaGreatDoor
end
section
namespace Go.Proofs.YthoonfpkfdjhiaaGreatDoor
open Go Go.az Go.RowKit Go.Bk Go.Msg
theorem QI(c:UInt8):∀l:List UInt8,-1≤Lib.indexByte l c∧Lib.indexByte l c<l.length:=by
 intro l
 induction l with
 |nil=>unfold Lib.indexByte;exact⟨by simp,by simp⟩
 |cons b l ih=>
  unfold Lib.indexByte
  simp only[List.length_cons]
  split
  ·omega
  ·split<;>omega
theorem RD{s:List UInt8}{b:UInt8}(h:(s.length:Int)=1)(hb:s[0]?=some b):IntKind.i64.wrap (Lib.indexByte pA b+1)=sK s:=by
 match s,h with
 |[c],_=>
  simp at hb;subst hb
  have:=QI c pA
  have h7:pA.length=7:=rfl
  rw[aM ab ab];rfl
 |[],h=>simp at h
 |_::_::_,h=>simp at h;omega
theorem RE{s:List UInt8}(h:¬(s.length:Int)=1):sK s=0:=by
 match s,h with
 |[_],h=>exact absurd rfl h
 |[],h=>rfl
 |_::_::_,h=>rfl
theorem TN(l:List Fld.Fd)(hl:l.length≤1000):ai E 165 [kB l] (fun r t=>r=pH (lK l)∧t=[]):=by
 refine ai.aC (n:=83) (rs:=[.cell 2 78]) Tryz.func165 rfl Tryz.ntmps165 rfl ?_
 repeat'(first
 |refine aa.ah fun K hK=>?_
 |(refine ak.one (wK pA b) ae rfl ?_;simp only[go_sem])
 |(refine ak.one (u5 l _ ab) ae rfl ?_;simp only[go_sem])
 |(refine ak.one (zg l _ ab) ae rfl ?_;simp only[go_sem])
 |(refine al.call (rs:=[.tmp 3]) Tryz.func201 rfl Tryz.ntmps201 rfl ae rfl rfl ?_;simp only[go_sem])
 |(refine al.call (rs:=[.tmp 3]) Tryz.func202 rfl Tryz.ntmps202 rfl ae rfl rfl ?_;simp only[go_sem])
 |(refine aa.here 3 9 10 rfl ?_;refine aa.aW ?_;refine al.at 10 1 rfl ?_;simp only[go_sem])
 |(refine al.at 8 1 rfl ?_;simp only[go_sem])
 |(refine al.at 6 1 rfl ?_;simp only[go_sem])
 |(refine aa.here 4 17 3 rfl ?_;refine aa.aW ?_;refine al.at 3 1 rfl ?_;simp only[go_sem])
 |(refine aa.here 9 31 4 rfl ?_;refine aa.aW ?_;refine al.at 4 1 rfl ?_;simp only[go_sem])
 |(refine aa.here 12 37 4 rfl ?_;refine aa.aW ?_;refine al.at 4 1 rfl ?_;simp only[go_sem])
 |(refine aa.here 14 42 8 rfl ?_;refine aa.aW ?_;refine al.at 8 1 rfl ?_;simp only[go_sem])
 |(refine aa.here 16 50 9 rfl ?_;refine aa.aW ?_;refine al.at 9 1 rfl ?_;simp only[go_sem])
 |(refine al.at 7 1 rfl ?_;simp only[go_sem])
 |(refine aa.here 18 59 24 rfl ?_;refine aa.aW ?_;refine al.at 24 1 rfl ?_;simp only[go_sem])
 |(refine al.at 22 1 rfl ?_;simp only[go_sem])
 |(refine al.at 20 1 rfl ?_;simp only[go_sem])
 |(refine al.at 18 1 rfl ?_;simp only[go_sem])
 |(refine al.at 16 1 rfl ?_;simp only[go_sem])
 |(refine al.at 14 1 rfl ?_;simp only[go_sem])
 |(refine al.at 12 2 rfl ?_;simp only[go_sem])
 |(refine al.at 9 1 rfl ?_;simp only[go_sem])
 |(refine al.at 5 1 rfl ?_;simp only[go_sem])
 |(refine aa.region ?_;simp only[go_sem])
 |(refine hK _ ?_;clear hK K)
 |refine aa.block ?_
 |refine aa.cond rfl (fun c=>?_) (fun c=>?_)<;>first|exact Bool.noConfusion c|(try simp only[dD] at c)
 |refine aa.skip ?_
 |((refine aQ.mR ?_ (fun b hb=>?_));(focus(omega));(try simp only[hb,go_sem]))
 |(
  refine aa.ret ?_
  refine aN.is ?_;simp only[go_sem,aU,aI,aH,aG,aK,aJ,aL]<;>(try((first|(exfalso;omega)|((try clear hK);simp only[RD (s:=(Fld.bN l 35).1) af hb] at *;(simp_all[lK,tx,nm,ph,aX]<;>first|rfl|exact⟨decide_eq_decide.2 Iff.rfl,decide_eq_decide.2 Iff.rfl⟩);done)|((try clear hK);have hkf:=RE (s:=(Fld.bN l 35).1) af;(simp_all[lK,tx,nm,ph,aX]<;>(rfl));done)))))
 |(refine aa.ret ?_;refine bW.ret rfl ?_;simp only[go_sem])
 |(refine al.of ?_;simp only[go_sem]))
theorem TR(bs:List UInt8):ai E 126 [aU bs] (fun r t=>r= .ax [pH (kU bs).1,i64 (kU bs).2]∧t=[]):=by
 refine ai.aC (n:=34) (rs:=[.cell 2 78,.tmp 3]) Tryz.func126 rfl Tryz.ntmps126 rfl ?_
 repeat'(first
 |refine aa.ah fun K hK=>?_
 |(refine aa.region ?_;simp only[go_sem])
 |(refine hK _ ?_;clear hK K)
 |refine aa.cond rfl (fun c=>?_) (fun c=>?_)<;>first|exact Bool.noConfusion c|(try simp only[dD] at c)
 |refine aa.skip ?_
 |(refine ak.of (zi _) ae rfl ?_;rintro r t ⟨rfl,rfl⟩;simp only[go_sem])
 |(refine ak.one (TN (Fld.bF bs).1 (by have:=Fld.Bi bs;omega)) ae rfl ?_;simp only[go_sem])
 |(refine ak.one (AA (lK (Fld.bF bs).1)) ae rfl ?_;simp only[go_sem])
 |(refine ak.one (xY _ _) ae rfl ?_;simp only[go_sem])
 |(refine aP.split (fun h=>?_) (fun h=>?_)<;>simp only[h,go_sem]<;>(try simp only[dD] at h))
 |(
  refine aa.ret ?_
  refine aN.is ?_;simp only[go_sem,aU,aI,aH,aG,aK,aJ,aL]<;>(try((((try clear hK);simp_all[kU,rE,aX];done))))))
end Go.Proofs.YthoonfpkfdjhiaaGreatDoor
end
