/- Texts of one chain, put together (X4, X5, Z1, Z2, G7, G8, G9, X6b, N3b, N5b, N6, N8, M1b, M4, KpH, Y1). -/
import Derived.Test.YthoonfpkfdjhiaaGreatDoorKaK
import Derived.Test.YthoonfpkfdjhiaaGreatDoorKaJ
import Derived.Test.YthoonfpkfdjhiaaGreatDoorKaI
import Derived.Test.YthoonfpkfdjhiaaGreatDoorKaH
import Derived.Test.YthoonfpkfdjhiaaGreatDoorKaG
import Derived.WalkKit
import Derived.Lib.BytesEntry
set_option linter.unusedVariables false
set_option linter.unusedSimpArgs false
set_option maxHeartbeats 16000000
set_option maxRecDepth 8000
section
namespace Go.Proofs.YthoonfpkfdjhiaaGreatDoor
open Go Go.Abs Go.RowKit Go.Bk Go.Msg Go.Txt
def turnB(bo bn b:UInt8):UInt8:=if b=bo then bn else b
def gU(bo bn b:UInt8):AV:=u8 (turnB bo bn b)
variable{bo bn:UInt8}
theorem rep_cut{l:List UInt8}{s i:Nat}(h:i<l.count bo)(h3:(l.take s).count bo=i):∃a r,l.drop s=a++bo::r∧bo∉a:=by
 have hc:0<(l.drop s).count bo:=by
  have:l.count bo=(l.take s).count bo+(l.drop s).count bo:=by rw[←List.count_append,List.take_append_drop]
  omega
 have hm:bo∈l.drop s:=List.count_pos_iff.1 hc
 cases hcut:Fld.cutB bo (l.drop s) with
 |none=>exact absurd hm (Fld.cutB_none.1 hcut)
 |some p=>
  obtain⟨e1,e2⟩:=Fld.cutB_some.1 (show Fld.cutB bo (l.drop s)=some (p.1,p.2) from hcut)
  exact⟨p.1,p.2,e1,e2⟩
theorem rep_len{l a r:List UInt8}{s:Nat}(h:l.drop s=a++bo::r):s+a.length+1≤l.length:=by
 have:=congrArg List.length h
 simp at this
 omega
theorem rep_piece{l a r:List UInt8}{s:Nat}(h:l.drop s=a++bo::r):(l.take (s+a.length)).drop s=a:=by
 rw[List.drop_take,h,Nat.add_sub_cancel_left,List.take_left'];rfl
theorem rep_idx{l a r:List UInt8}{s:Nat}(h:l.drop s=a++bo::r)(ha:bo∉a):Lib.indexByte (l.drop s) bo=(a.length:Int):=by
 rw[Fld.index_cut,h,Fld.cutB_at r ha]
theorem rep_take{l a r:List UInt8}{s:Nat}(h:l.drop s=a++bo::r):l.take (s+a.length+1)=l.take s++(a++[bo]):=by
 rw[show s+a.length+1=s+(a.length+1) by omega,List.take_add,h]
 congr 1
 rw[show a++bo::r=(a++[bo])++r by simp]
 exact List.take_left' (by simp)
theorem rep_count{l a r:List UInt8}{s i:Nat}(h:l.drop s=a++bo::r)(h3:(l.take s).count bo=i)(ha:bo∉a:=by assumption):(l.take (s+a.length+1)).count bo=i+1:=by
 rw[rep_take h,List.count_append,List.count_append,h3,List.count_eq_zero.2 ha];simp
theorem ins_at{P A:List AV}{z:AV}{q s:Nat}(hs:P.length=s)(hA:A.length≤q):(P++List.replicate q z).take s++(A++(P++List.replicate q z).drop (s+A.length))=P++A++List.replicate (q-A.length) z:=by
 subst hs
 rw[List.take_left,List.drop_length_add_append,List.drop_replicate,List.append_assoc]
theorem rep_row{l a r:List UInt8}{s:Nat}(h:l.drop s=a++bo::r)(ha:bo∉a):(l.take s).map (gU bo bn)++a.map u8++[u8 bn]++List.replicate (l.length-s-a.length-1) (u8 0)=(l.take (s+a.length+1)).map (gU bo bn)++List.replicate (l.length-(s+a.length+1)) (u8 0):=by
 have e:a.map u8=a.map (gU bo bn):=List.map_congr_left fun b hb=>by
  unfold gU turnB;rw[if_neg (fun e=>ha (by rw[←e];exact hb))]
 rw[rep_take h,e]
 simp only[List.map_append,List.map_cons,List.map_nil,List.append_assoc]
 rw[show gU bo bn bo=u8 bn by unfold gU turnB;rw[if_pos rfl],show l.length-s-a.length-1=l.length-(s+a.length+1) by omega]
theorem bel_rep{no nt n:Nat}{l:List UInt8}:∀es,some (l.map (gU bo bn)++List.replicate n (u8 0))=some es→∀e∈es,∀z∈e.leaves,z.bel no nt=true:=by
 intro es he e hm z hz
 simp only[Option.some.injEq] at he
 subst he
 rcases List.mem_append.1 hm with h|h
 ·obtain⟨b,_,rfl⟩:=List.mem_map.1 h
  have hz2:z∈[(gU bo bn) b]:=hz
  rw[List.mem_singleton] at hz2
  subst hz2;rfl
 ·have h:=(List.mem_replicate.1 h).2
  subst h
  have hz2:z∈[u8 0]:=hz
  rw[List.mem_singleton] at hz2
  subst hz2;rfl
theorem rep_none{l:List UInt8}(h:l.count bo=0):l.map (turnB bo bn)=l:=by
 conv=>rhs;rw[←List.map_id l]
 apply List.map_congr_left
 intro b hb
 unfold turnB
 rw[if_neg (fun e=>List.count_eq_zero.1 h (by rw[←e];exact hb))];rfl
theorem cl_gU{l:List UInt8}:∀e∈l.map (gU bo bn),∀x∈e.leaves,x.clean1=some x:=by
 intro e he x hx
 obtain⟨b,_,rfl⟩:=List.mem_map.1 he
 have hz2:x∈[(gU bo bn) b]:=hx
 rw[List.mem_singleton] at hz2
 subst hz2;rfl
theorem rep_map{l:List UInt8}:l.map (gU bo bn)=(l.map (turnB bo bn)).map u8:=by rw[List.map_map];rfl
theorem rep_end{l:List UInt8}{s:Nat}:∀(h:s=l.length),((l.take s).map (gU bo bn)++List.replicate (l.length-s) (u8 0))=l.map (gU bo bn):=by
 rintro rfl;simp
theorem rep_end2{l:List UInt8}{s:Nat}(h:(l.take s).count bo=l.count bo):(l.take s).map (gU bo bn)++(l.drop s).map u8++List.replicate (l.length-s-((l.drop s).map u8).length) (u8 0)=l.map (gU bo bn):=by
 have hc:(l.drop s).count bo=0:=by
  have:l.count bo=(l.take s).count bo+(l.drop s).count bo:=by rw[←List.count_append,List.take_append_drop]
  omega
 have e:(l.drop s).map u8=(l.drop s).map (gU bo bn):=List.map_congr_left fun b hb=>by
  unfold gU turnB;rw[if_neg (fun e=>List.count_eq_zero.1 hc (by rw[←e];exact hb))]
 rw[List.length_map,List.length_drop,Nat.sub_self,List.replicate_zero,List.append_nil,e,←List.map_append,List.take_append_drop]
theorem repl_g(bo bn:UInt8)(l:List UInt8)(hl:l≠[])(hlen:l.length≤5000):ACalls E 161 [bytesV l,.sl none 1 [u8 bo],.sl none 1 [u8 bn],i64 (-1)] (fun r t=>r=bytesV (l.map (turnB bo bn))∧t=[]):=by
 have hlp:=List.length_pos_iff.2 hl
 have hcl:=List.count_le_length (a:=bo) (l:=l)
 refine ACalls.of_awp (n:=132) (rs:=[.tmp 8]) Tryz.func161 rfl Tryz.ntmps161 rfl ?_
 repeat'(first
 |refine AWP.seqk fun K hK=>?_
 |(
  refine AWP.here 14 51 8 rfl ?_
  obtain⟨a,r,hd,ha⟩:=rep_cut (s:=p) (by omega:i<l.count bo) h3
  have hal:p+a.length+1≤l.length:=rep_len hd
  have hpiece:=rep_piece hd
  have hidx:=rep_idx hd ha
  have hw1:IntKind.i64.wrap ((p:Int)+(a.length:Int))=((p+a.length:Nat):Int):=by rw[wrap64_id (by omega) (by omega)];omega
  have hw2b:(((p+a.length:Nat):Int)+1)=((p+a.length+1:Nat):Int):=by omega
  have hw3:IntKind.i64.wrap ((i:Int)+1)=((i+1:Nat):Int):=by rw[wrap64_id (by omega) (by omega)];omega
  refine AWP.region ?_;simp only[go_sem,hidx,hw1])
 |(
  refine AWP.here 8 34 12 rfl ?_
  refine AWP.regionL ?_
  refine AWPL.at 12 10 rfl ?_
  simp only[go_sem]
  (repeat(refine⟨⟨_,rfl⟩,?_⟩))
  have hwl:IntKind.i64.wrap (l.length:Int)=(l.length:Int):=wrap64_id (by omega) (by omega)
  simp only[wl0,Int.mul_zero,Int.add_zero,hwl]
  refine AWPL.makeMu (m:=l.length) (zs:=[u8 0]) (z:=u8 0) ap30 (by kernel_rfl) rfl rfl rfl (by omega) (by decide) (by decide) ?_
  simp only[go_sem]
  refine AWPL.of ?_
  (try simp only[go_sem]))
 |(
  refine AWP.here 15 58 11 rfl ?_
  simp only[hidx,hw1]
  refine AWP.regionFlow [[],[],[],[1,2],[],[],[],[4,5,6],[1,2,3,4,5,6,7],[0,1,2,3,4,5,6,7,8],[0,1,2,3,4,5,6,7,8,9]] [i64 (p:Int),.mu 0 1 0 l.length l.length,i64 (p:Int),.mu 0 1 (0+p) (l.length-p) (l.length-p),bytesV l,i64 (p:Int),i64 ((p+a.length:Nat):Int),.sl none 1 (a.map u8),i64 (a.length:Nat),i64 ((p+a.length:Nat):Int),i64 ((p+a.length:Nat):Int)] [8] (fun k=>[[some ((l.take p).map (gU bo bn)++List.replicate (l.length-p) (u8 0))],[some ((l.take p).map (gU bo bn)++a.map u8++List.replicate (l.length-p-a.length) (u8 0))]].getD k []) (by kernel_rfl) (by kernel_rfl) rfl rfl rfl ?_ ?_ ?_
  ·intro i o ho hi s hg how htk hrs hr
   rcases i with _|i
   ·simp only[List.getElem?_toArray,List.getElem?_cons_zero,List.getElem?_cons_succ,Option.some.injEq] at ho;subst ho
    have e11:=(hr 11 (by decide)).trans (rfl:_=(i64 (p:Int):AV))
    refine FOp.list ?_
    simp only[go_sem,e11]
    (done)
   rcases i with _|i
   ·simp only[List.getElem?_toArray,List.getElem?_cons_zero,List.getElem?_cons_succ,Option.some.injEq] at ho;subst ho
    have e10:=(hr 10 (by decide)).trans (rfl:_=(.mu 0 1 0 l.length l.length:AV))
    refine FOp.list ?_
    simp only[go_sem,e10]
    (done)
   rcases i with _|i
   ·simp only[List.getElem?_toArray,List.getElem?_cons_zero,List.getElem?_cons_succ,Option.some.injEq] at ho;subst ho
    have e11:=(hr 11 (by decide)).trans (rfl:_=(i64 (p:Int):AV))
    refine FOp.list ?_
    simp only[go_sem,e11]
    (done)
   rcases i with _|i
   ·simp only[List.getElem?_toArray,List.getElem?_cons_zero,List.getElem?_cons_succ,Option.some.injEq] at ho;subst ho
    have e59:=(hr 59 (by decide)).trans (rfl:_=(.mu 0 1 0 l.length l.length:AV))
    have e60:=(hr 60 (by decide)).trans (rfl:_=(i64 (p:Int):AV))
    refine FOp.call fun Q hQ=>?_
    refine AWPL.sliceMu (e:=5) (l:=p) (k:=1) (off:=0) (len:=l.length) (cap:=l.length) (by kernel_rfl) (by kernel_rfl) e59 e60 (by omega) (by omega) (by omega) ?_
    exact hQ
   rcases i with _|i
   ·simp only[List.getElem?_toArray,List.getElem?_cons_zero,List.getElem?_cons_succ,Option.some.injEq] at ho;subst ho
    have e0:=(hr 0 (by decide)).trans (rfl:_=(bytesV l:AV))
    refine FOp.list ?_
    simp only[go_sem,e0]
    (done)
   rcases i with _|i
   ·simp only[List.getElem?_toArray,List.getElem?_cons_zero,List.getElem?_cons_succ,Option.some.injEq] at ho;subst ho
    have e12:=(hr 12 (by decide)).trans (rfl:_=(i64 (p:Int):AV))
    refine FOp.list ?_
    simp only[go_sem,e12]
    (done)
   rcases i with _|i
   ·simp only[List.getElem?_toArray,List.getElem?_cons_zero,List.getElem?_cons_succ,Option.some.injEq] at ho;subst ho
    have e13:=(hr 13 (by decide)).trans (rfl:_=(i64 ((p+a.length:Nat):Int):AV))
    refine FOp.list ?_
    simp only[go_sem,e13]
    (done)
   rcases i with _|i
   ·simp only[List.getElem?_toArray,List.getElem?_cons_zero,List.getElem?_cons_succ,Option.some.injEq] at ho;subst ho
    have e62:=(hr 62 (by decide)).trans (rfl:_=(bytesV l:AV))
    have e63:=(hr 63 (by decide)).trans (rfl:_=(i64 (p:Int):AV))
    have e64:=(hr 64 (by decide)).trans (rfl:_=(i64 ((p+a.length:Nat):Int):AV))
    refine FOp.list ?_
    simp only[go_sem,e62,e63,e64]
    (try rw[hpiece])
    (exact⟨by omega,by omega,rfl⟩)
   rcases i with _|i
   ·exact absurd (by decide) hi
   rcases i with _|i
   ·simp only[List.getElem?_toArray,List.getElem?_cons_zero,List.getElem?_cons_succ,Option.some.injEq] at ho;subst ho
    have e58:=(hr 58 (by decide)).trans (rfl:_=(i64 (p:Int):AV))
    have e66:=(hr 66 (by decide)).trans (rfl:_=(i64 (a.length:Nat):AV))
    refine FOp.list ?_
    simp only[go_sem,e58,e66]
    rw[wrap64_id (by omega) (by omega)]
    rfl
   rcases i with _|i
   ·simp only[List.getElem?_toArray,List.getElem?_cons_zero,List.getElem?_cons_succ,Option.some.injEq] at ho;subst ho
    have e67:=(hr 67 (by decide)).trans (rfl:_=(i64 ((p+a.length:Nat):Int):AV))
    refine FOp.list ?_
    simp only[go_sem,e67]
    (done)
   ·exact absurd ho (by simp)
  ·intro k i o hk ho s hg how htk hrs hup hpp hr
   rcases k with _|k
   ·obtain rfl:=Option.some.inj hk
    simp only[List.getElem?_toArray,List.getElem?_cons_zero,List.getElem?_cons_succ,Option.some.injEq] at ho;subst ho
    have e61:=(hr 61 (by decide)).trans (rfl:_=(.mu 0 1 (0+p) (l.length-p) (l.length-p):AV))
    have e65:=(hr 65 (by decide)).trans (rfl:_=(.sl none 1 (a.map u8):AV))
    clear hr
    obtain⟨tm,ow0,tk0,gl0,rsv0,up0⟩:=s
    simp only[] at hg how htk hrs hup hpp;subst hg;subst how;subst htk;subst hrs;subst hup
    refine FOp.call fun Q hQ=>?_
    refine AWPL.copyMu (id:=0) (es:=((l.take p).map (gU bo bn)++List.replicate (l.length-p) (u8 0))) (xs:=a.map u8) ap30 e61 ((congrArg (fun z=>ASrc z 1) e65).trans rfl) rfl (by simp;omega) (by simp;omega) (by omega) ?_
    rw[Nat.zero_add,ins_at (by simp;omega) (by simp;omega),List.length_map]
    exact hQ
   ·exact absurd hk (by simp)
  simp only[go_sem,Go.Abs.setAll,Go.Abs.dstsOf,List.map_cons,List.map_nil])
 |(
  refine AWP.here 16 68 8 rfl ?_
  have hrow:=rep_row (bn:=bn) (l:=l) hd ha
  refine AWP.regionL ?_
  refine AWPL.at 8 3 rfl ?_
  simp only[go_sem]
  (repeat(refine⟨⟨_,rfl⟩,?_⟩))
  refine AWPL.sliceMu (e:=5) (l:=p+a.length) (k:=1) (off:=0) (len:=l.length) (cap:=l.length) (by kernel_rfl) (by kernel_rfl) rfl rfl (by omega) (by omega) (by omega) ?_
  refine AWPL.at 4 1 rfl ?_
  simp only[go_sem]
  (repeat(refine⟨⟨_,rfl⟩,?_⟩))
  refine AWPL.copyMu (id:=0) (es:=((l.take p).map (gU bo bn)++a.map u8++List.replicate (l.length-p-a.length) (u8 0))) (xs:=[u8 bn]) ap30 rfl rfl rfl (by simp;omega) (by simp;omega) (by omega) ?_
  (try rw[Nat.zero_add])
  rw[ins_at (by simp;omega) (by simp;omega),show([u8 bn]:List AV).length=1 from rfl,hrow]
  simp only[go_sem]
  refine AWPL.of ?_
  (try simp only[go_sem]))
 |(
  refine AWP.here 28 120 10 rfl ?_
  have hrowE2:=rep_end2 (bo:=bo) (bn:=bn) (l:=l) (s:=p) (by omega)
  rcases Nat.lt_or_ge p l.length with hlt|hge
  refine AWP.regionFlow [[],[],[],[1,2],[],[],[4,5],[1,2,3,4,5,6],[0,1,2,3,4,5,6,7],[0,1,2,3,4,5,6,7,8]] [i64 (p:Int),.mu 0 1 0 l.length l.length,i64 (p:Int),.mu 0 1 (0+p) (l.length-p) (l.length-p),bytesV l,i64 (p:Int),.sl none 1 ((l.drop p).map u8),i64 ((l.length-p:Nat):Int),i64 (l.length:Int),i64 (l.length:Int)] [7] (fun k=>[[some ((l.take p).map (gU bo bn)++List.replicate (l.length-p) (u8 0))],[some (l.map (gU bo bn))]].getD k []) (by kernel_rfl) (by kernel_rfl) rfl rfl rfl ?_ ?_ ?_
  ·intro i o ho hi s hg how htk hrs hr
   rcases i with _|i
   ·simp only[List.getElem?_toArray,List.getElem?_cons_zero,List.getElem?_cons_succ,Option.some.injEq] at ho;subst ho
    have e11:=(hr 11 (by decide)).trans (rfl:_=(i64 (p:Int):AV))
    refine FOp.list ?_
    simp only[go_sem,e11]
    (done)
   rcases i with _|i
   ·simp only[List.getElem?_toArray,List.getElem?_cons_zero,List.getElem?_cons_succ,Option.some.injEq] at ho;subst ho
    have e10:=(hr 10 (by decide)).trans (rfl:_=(.mu 0 1 0 l.length l.length:AV))
    refine FOp.list ?_
    simp only[go_sem,e10]
    (done)
   rcases i with _|i
   ·simp only[List.getElem?_toArray,List.getElem?_cons_zero,List.getElem?_cons_succ,Option.some.injEq] at ho;subst ho
    have e11:=(hr 11 (by decide)).trans (rfl:_=(i64 (p:Int):AV))
    refine FOp.list ?_
    simp only[go_sem,e11]
    (done)
   rcases i with _|i
   ·simp only[List.getElem?_toArray,List.getElem?_cons_zero,List.getElem?_cons_succ,Option.some.injEq] at ho;subst ho
    have e121:=(hr 121 (by decide)).trans (rfl:_=(.mu 0 1 0 l.length l.length:AV))
    have e122:=(hr 122 (by decide)).trans (rfl:_=(i64 (p:Int):AV))
    refine FOp.call fun Q hQ=>?_
    refine AWPL.sliceMu (e:=5) (l:=p) (k:=1) (off:=0) (len:=l.length) (cap:=l.length) (by kernel_rfl) (by kernel_rfl) e121 e122 (by omega) (by omega) (by omega) ?_
    exact hQ
   rcases i with _|i
   ·simp only[List.getElem?_toArray,List.getElem?_cons_zero,List.getElem?_cons_succ,Option.some.injEq] at ho;subst ho
    have e0:=(hr 0 (by decide)).trans (rfl:_=(bytesV l:AV))
    refine FOp.list ?_
    simp only[go_sem,e0]
    (done)
   rcases i with _|i
   ·simp only[List.getElem?_toArray,List.getElem?_cons_zero,List.getElem?_cons_succ,Option.some.injEq] at ho;subst ho
    have e12:=(hr 12 (by decide)).trans (rfl:_=(i64 (p:Int):AV))
    refine FOp.list ?_
    simp only[go_sem,e12]
    (done)
   rcases i with _|i
   ·simp only[List.getElem?_toArray,List.getElem?_cons_zero,List.getElem?_cons_succ,Option.some.injEq] at ho;subst ho
    have e124:=(hr 124 (by decide)).trans (rfl:_=(bytesV l:AV))
    have e125:=(hr 125 (by decide)).trans (rfl:_=(i64 (p:Int):AV))
    refine FOp.list ?_
    simp only[go_sem,e124,e125]
    (omega)
   rcases i with _|i
   ·exact absurd (by decide) hi
   rcases i with _|i
   ·simp only[List.getElem?_toArray,List.getElem?_cons_zero,List.getElem?_cons_succ,Option.some.injEq] at ho;subst ho
    have e120:=(hr 120 (by decide)).trans (rfl:_=(i64 (p:Int):AV))
    have e127:=(hr 127 (by decide)).trans (rfl:_=(i64 ((l.length-p:Nat):Int):AV))
    refine FOp.list ?_
    simp only[go_sem,e120,e127]
    rw[wrap64_id (by omega) (by omega)]
    rw[show((p:Int)+((l.length-p:Nat):Int))=(l.length:Int) by omega]
   rcases i with _|i
   ·simp only[List.getElem?_toArray,List.getElem?_cons_zero,List.getElem?_cons_succ,Option.some.injEq] at ho;subst ho
    have e128:=(hr 128 (by decide)).trans (rfl:_=(i64 (l.length:Int):AV))
    refine FOp.list ?_
    simp only[go_sem,e128]
    (done)
   ·exact absurd ho (by simp)
  ·intro k i o hk ho s hg how htk hrs hup hpp hr
   rcases k with _|k
   ·obtain rfl:=Option.some.inj hk
    simp only[List.getElem?_toArray,List.getElem?_cons_zero,List.getElem?_cons_succ,Option.some.injEq] at ho;subst ho
    have e123:=(hr 123 (by decide)).trans (rfl:_=(.mu 0 1 (0+p) (l.length-p) (l.length-p):AV))
    have e126:=(hr 126 (by decide)).trans (rfl:_=(.sl none 1 ((l.drop p).map u8):AV))
    clear hr
    obtain⟨tm,ow0,tk0,gl0,rsv0,up0⟩:=s
    simp only[] at hg how htk hrs hup hpp;subst hg;subst how;subst htk;subst hrs;subst hup
    refine FOp.call fun Q hQ=>?_
    refine AWPL.copyMu (id:=0) (es:=((l.take p).map (gU bo bn)++List.replicate (l.length-p) (u8 0))) (xs:=(l.drop p).map u8) ap30 e123 ((congrArg (fun z=>ASrc z 1) e126).trans rfl) rfl (by simp;omega) (by simp) (by omega) ?_
    (try rw[Nat.zero_add])
    rw[ins_at (by simp;omega) (by simp),hrowE2,List.length_map,List.length_drop]
    exact hQ
   ·exact absurd hk (by simp)
  simp only[go_sem,Go.Abs.setAll,Go.Abs.dstsOf,List.map_cons,List.map_nil]
  rotate_left
  have hlt:p=l.length:=by omega
  have hrowE:=rep_end (bo:=bo) (bn:=bn) (l:=l) (s:=p) hlt
  refine AWP.regionFlow [[],[],[],[1,2],[],[],[4,5],[1,2,3,4,5,6],[0,1,2,3,4,5,6,7],[0,1,2,3,4,5,6,7,8]] [i64 (p:Int),.mu 0 1 0 l.length l.length,i64 (p:Int),.mu 0 1 0 0 0,bytesV l,i64 (p:Int),.sl none 1 ((l.drop p).map u8),i64 ((l.length-p:Nat):Int),i64 (l.length:Int),i64 (l.length:Int)] [7] (fun k=>[[some ((l.take p).map (gU bo bn)++List.replicate (l.length-p) (u8 0))],[some (l.map (gU bo bn))]].getD k []) (by kernel_rfl) (by kernel_rfl) rfl rfl rfl ?_ ?_ ?_
  ·intro i o ho hi s hg how htk hrs hr
   rcases i with _|i
   ·simp only[List.getElem?_toArray,List.getElem?_cons_zero,List.getElem?_cons_succ,Option.some.injEq] at ho;subst ho
    have e11:=(hr 11 (by decide)).trans (rfl:_=(i64 (p:Int):AV))
    refine FOp.list ?_
    simp only[go_sem,e11]
    (done)
   rcases i with _|i
   ·simp only[List.getElem?_toArray,List.getElem?_cons_zero,List.getElem?_cons_succ,Option.some.injEq] at ho;subst ho
    have e10:=(hr 10 (by decide)).trans (rfl:_=(.mu 0 1 0 l.length l.length:AV))
    refine FOp.list ?_
    simp only[go_sem,e10]
    (done)
   rcases i with _|i
   ·simp only[List.getElem?_toArray,List.getElem?_cons_zero,List.getElem?_cons_succ,Option.some.injEq] at ho;subst ho
    have e11:=(hr 11 (by decide)).trans (rfl:_=(i64 (p:Int):AV))
    refine FOp.list ?_
    simp only[go_sem,e11]
    (done)
   rcases i with _|i
   ·simp only[List.getElem?_toArray,List.getElem?_cons_zero,List.getElem?_cons_succ,Option.some.injEq] at ho;subst ho
    have e121:=(hr 121 (by decide)).trans (rfl:_=(.mu 0 1 0 l.length l.length:AV))
    have e122:=(hr 122 (by decide)).trans (rfl:_=(i64 (p:Int):AV))
    refine FOp.call fun Q hQ=>?_
    refine AWPL.sliceMuEnd (e:=5) (k:=1) (off:=0) (cap:=l.length) (by kernel_rfl) (by kernel_rfl) e121 (e122.trans (by rw[hlt])) (by omega) ?_
    exact hQ
   rcases i with _|i
   ·simp only[List.getElem?_toArray,List.getElem?_cons_zero,List.getElem?_cons_succ,Option.some.injEq] at ho;subst ho
    have e0:=(hr 0 (by decide)).trans (rfl:_=(bytesV l:AV))
    refine FOp.list ?_
    simp only[go_sem,e0]
    (done)
   rcases i with _|i
   ·simp only[List.getElem?_toArray,List.getElem?_cons_zero,List.getElem?_cons_succ,Option.some.injEq] at ho;subst ho
    have e12:=(hr 12 (by decide)).trans (rfl:_=(i64 (p:Int):AV))
    refine FOp.list ?_
    simp only[go_sem,e12]
    (done)
   rcases i with _|i
   ·simp only[List.getElem?_toArray,List.getElem?_cons_zero,List.getElem?_cons_succ,Option.some.injEq] at ho;subst ho
    have e124:=(hr 124 (by decide)).trans (rfl:_=(bytesV l:AV))
    have e125:=(hr 125 (by decide)).trans (rfl:_=(i64 (p:Int):AV))
    refine FOp.list ?_
    simp only[go_sem,e124,e125]
    (omega)
   rcases i with _|i
   ·exact absurd (by decide) hi
   rcases i with _|i
   ·simp only[List.getElem?_toArray,List.getElem?_cons_zero,List.getElem?_cons_succ,Option.some.injEq] at ho;subst ho
    have e120:=(hr 120 (by decide)).trans (rfl:_=(i64 (p:Int):AV))
    have e127:=(hr 127 (by decide)).trans (rfl:_=(i64 ((l.length-p:Nat):Int):AV))
    refine FOp.list ?_
    simp only[go_sem,e120,e127]
    rw[wrap64_id (by omega) (by omega)]
    rw[show((p:Int)+((l.length-p:Nat):Int))=(l.length:Int) by omega]
   rcases i with _|i
   ·simp only[List.getElem?_toArray,List.getElem?_cons_zero,List.getElem?_cons_succ,Option.some.injEq] at ho;subst ho
    have e128:=(hr 128 (by decide)).trans (rfl:_=(i64 (l.length:Int):AV))
    refine FOp.list ?_
    simp only[go_sem,e128]
    (done)
   ·exact absurd ho (by simp)
  ·intro k i o hk ho s hg how htk hrs hup hpp hr
   rcases k with _|k
   ·obtain rfl:=Option.some.inj hk
    simp only[List.getElem?_toArray,List.getElem?_cons_zero,List.getElem?_cons_succ,Option.some.injEq] at ho;subst ho
    have e123:=(hr 123 (by decide)).trans (rfl:_=(.mu 0 1 0 0 0:AV))
    have e126:=(hr 126 (by decide)).trans (rfl:_=(.sl none 1 ((l.drop p).map u8):AV))
    clear hr
    obtain⟨tm,ow0,tk0,gl0,rsv0,up0⟩:=s
    simp only[] at hg how htk hrs hup hpp;subst hg;subst how;subst htk;subst hrs;subst hup
    refine FOp.call fun Q hQ=>?_
    refine AWPL.copyNone ap30 e123 ((congrArg (fun z=>ASrc z 1) e126).trans (by rw[hlt,List.drop_length];rfl)) ?_
    rw[show goInt 0= .int .i64 ((l.length-p:Nat):Int) by rw[hlt,Nat.sub_self];rfl]
    rw[hrowE]
    exact hQ
   ·exact absurd hk (by simp)
  simp only[go_sem,Go.Abs.setAll,Go.Abs.dstsOf,List.map_cons,List.map_nil])
 |(
  refine AWP.here 29 129 4 rfl ?_
  refine AWP.regionL ?_
  refine AWPL.at 4 2 rfl ?_
  simp only[go_sem]
  (repeat(refine⟨⟨_,rfl⟩,?_⟩))
  refine AWPL.slice2Mu (e:=5) (l':=0) (h':=l.length) (k:=1) (off:=0) (cap:=l.length) (by kernel_rfl) (by kernel_rfl) rfl rfl rfl (by omega) (by omega) (by omega) ?_
  simp only[Nat.add_zero,Nat.sub_zero]
  simp only[go_sem]
  refine AWPL.of ?_
  (try simp only[go_sem]))
 |(refine AWP.region ?_;simp only[go_sem])
 |(refine hK _ ?_;clear hK K)
 |refine AWP.block ?_
 |refine AWP.cond rfl (fun c=>?_) (fun c=>?_)<;>first|exact Bool.noConfusion c|(try simp only[dD] at c)
 |refine AWP.skip ?_
 |(refine AWP.exit ?_;simp only[go_sem])
 |(refine ACall.one (bcount_c l bo hl) (by kernel_rfl) rfl ?_;simp only[go_sem])
 |(refine ACall.one (bindex_c (l.drop p) bo (by rw[hd];simp)) (by kernel_rfl) rfl ?_;simp only[go_sem])
 |((with_reducible refine And.intro ?_ ?_);(focus(first|omega|(simp;done)));(try simp only[hb,go_sem]))
 |(
  refine AWP.here 13 50 1 rfl ?_
  refine AWP.loopM (ι:=Nat×Nat) [13,50,51,52,53,54,55,56,57,58,59,60,61,62,63,64,65,66,67,68,69,70,71,72,73,74,75,76,77,78,79] (fun⟨i,p⟩=>[(11,i64 (p:Int)),(12,i64 (p:Int)),(49,i64 (i:Int))]) (fun⟨i,p⟩=>[some ((l.take p).map (gU bo bn)++List.replicate (l.length-p) (u8 0))]) (fun⟨i,p⟩=>[]) (fun⟨i,p⟩=>i≤l.count bo∧p≤l.length∧(l.take p).count bo=i) (fun⟨i,p⟩=>l.count bo-i) ((0,0)) ?_ ?_ ?_
  ·(try simp only[go_sem]);(repeat'((simp;done)));done
  ·exact⟨by omega,by omega,by simp⟩
  rintro⟨i,p⟩ ⟨h1,h2,h3⟩
  simp only[go_sem])
 |(
  refine⟨(i+1,p+a.length+1),?_,?_,?_⟩
  ·(try simp only[go_sem]);(try rw[wrap64_id (by omega) (by omega)]);(try simp only[hw2b,hw3]);(repeat'(first|exact .inr bel_rep|refine And.intro ?_ ?_|(simp;done)));done
  ·(try dsimp only);exact⟨by omega,by omega,rep_count hd h3 ha⟩
  ·(try simp only[]);omega)
 |(
  refine AWP.publishSl 8 0 1 l.length (l.map (gU bo bn)) (by simp) rfl cl_gU ?_
  (try simp only[go_sem])
  refine AWP.ret ?_
  refine AEnd.is ?_
  simp only[go_sem,out_v,out_s,out_n,v_int,v_bool,v_str]<;>(exact rep_map))
 |(
  refine AWP.ret ?_
  refine AEnd.is ?_
  simp only[go_sem,out_v,out_s,out_n,v_int,v_bool,v_str]<;>((rw[rep_none (bn:=bn) (by omega)];done)))
 |refine AWP.fin (by assumption) ?_)
end Go.Proofs.YthoonfpkfdjhiaaGreatDoor
end
section
namespace Go.Proofs.YthoonfpkfdjhiaaGreatDoor
open Go Go.Abs Go.RowKit Go.Bk Go.Msg Go.Txt
theorem report_body{x:Ex}(h:execB x=true):(putM (reportM x)).1≠[]∧(putM (reportM x)).1.length≤5000:=by
 obtain⟨h1,h2,_⟩:=report_len h
 unfold reportA at h1 h2
 rw[List.length_map] at h1 h2
 exact⟨List.length_pos_iff.1 h1,by omega⟩
theorem exec_may{a:Ak}(h:mayA a=true)(k:a.kind=3):execB a.exec=true:=by
 rw[may3 k] at h;simp only[Bool.and_eq_true] at h;exact h.2
theorem putK_ok{a:Ak}(h:mayA a=true):putK a=(Fld.encL (fieldsA a),0):=by unfold putK;rw[if_pos h]
theorem putK_no{a:Ak}(h:mayA a=false):putK a=([],1):=by unfold putK;rw[h];rfl
theorem fput_k{a:Ak}(h:mayA a=true):ACalls E 26 [fldsV (fieldsA a)] (fun r t=>r= .tup [.sl (some 0) 1 ((Fld.encL (fieldsA a)).map u8),i64 0]∧t=[(Fld.encL (fieldsA a)).length]):=by
 have:=fput_c (fieldsA a)
 rw[put_fields h] at this
 exact this
theorem fields_k1{a:Ak}(k:a.kind=1):fieldsA a=[(1,Fld.showF a.kind),(2,Fld.showF a.venue),(3,a.ord.id),(4,a.ord.acc),(5,a.ord.sym),(6,flagW a.ord.buy),(7,Fld.showF a.ord.qty),(8,Fld.showF a.ord.price)]:=by unfold fieldsA;rw[if_pos k]
theorem fields_k2{a:Ak}(k:a.kind=2):fieldsA a=[(1,Fld.showF a.kind),(2,Fld.showF a.venue),(3,a.id),(4,a.ord.id),(7,Fld.showF a.ord.qty),(8,Fld.showF a.ord.price)]:=by unfold fieldsA;rw[if_neg (by omega),if_pos k]
theorem fields_k3{a:Ak}(k:a.kind=3):fieldsA a=[(1,Fld.showF a.kind),(2,Fld.showF a.venue),(9,reportA a.exec)]:=by unfold fieldsA;rw[if_neg (by omega),if_neg (by omega),if_pos k]
theorem fields_k4{a:Ak}(k:a.kind=4):fieldsA a=[(1,Fld.showF a.kind),(10,Fld.showF a.now)]:=by unfold fieldsA;rw[if_neg (by omega),if_neg (by omega),if_neg (by omega),if_pos k]
theorem fields_k5{a:Ak}(k:a.kind=5):fieldsA a=[(1,Fld.showF a.kind),(11,flagW a.on)]:=by unfold fieldsA;rw[if_neg (by omega),if_neg (by omega),if_neg (by omega),if_neg (by omega),if_pos k]
theorem fields_k6{a:Ak}(k:a.kind=6):fieldsA a=[(1,Fld.showF a.kind),(2,Fld.showF a.venue),(11,flagW a.on)]:=by unfold fieldsA;rw[if_neg (by omega),if_neg (by omega),if_neg (by omega),if_neg (by omega),if_neg (by omega),if_pos k]
theorem fields_k8{a:Ak}(k:a.kind=8):fieldsA a=[(1,Fld.showF a.kind),(4,a.lim.acc),(5,a.lim.sym),(12,Fld.showF a.lim.long),(13,Fld.showF a.lim.short),(7,Fld.showF a.lim.qty),(8,Fld.showF a.lim.value)]:=by unfold fieldsA;rw[if_neg (by omega),if_neg (by omega),if_neg (by omega),if_neg (by omega),if_neg (by omega),if_neg (by omega),if_pos k]
theorem fields_k7{a:Ak}(k:¬a.kind=1∧¬a.kind=2∧¬a.kind=3∧¬a.kind=4∧¬a.kind=5∧¬a.kind=6∧¬a.kind=8):fieldsA a=[(1,Fld.showF a.kind),(2,Fld.showF a.venue)]:=by
 obtain⟨h1,h2,h3,h4,h5,h6,h8⟩:=k
 unfold fieldsA;rw[if_neg h1,if_neg h2,if_neg h3,if_neg h4,if_neg h5,if_neg h6,if_neg h8]
theorem repall_g(bo bn:UInt8)(l:List UInt8)(hl:l≠[])(hlen:l.length≤5000):ACalls E 118 [bytesV l,.sl none 1 [u8 bo],.sl none 1 [u8 bn]] (fun r t=>r=bytesV (l.map (turnB bo bn))∧t=[]):=by
 refine ACalls.of_awp (n:=11) (rs:=[.tmp 6]) Tryz.func118 rfl Tryz.ntmps118 rfl ?_
 repeat'(first
 |refine AWP.seqk fun K hK=>?_
 |(refine AWP.region ?_;simp only[go_sem])
 |(refine hK _ ?_;clear hK K)
 |(refine ACall.one (repl_g bo bn l hl hlen) (by kernel_rfl) rfl ?_;simp only[go_sem])
 |(
  refine AWP.ret ?_
  refine AEnd.is ?_;simp only[go_sem,out_v,out_s,out_n,v_int,v_bool,v_str]<;>rfl))
theorem repall_c(l:List UInt8)(hl:l≠[])(hlen:l.length≤5000):ACalls E 118 [bytesV l,.sl none 1 [u8 1],.sl none 1 [u8 2]] (fun r t=>r=bytesV (l.map turn12)∧t=[]):=repall_g 1 2 l hl hlen
theorem kreport_c(x:Ex)(hx:execB x=true):ACalls E 62 [exV x] (fun r t=>r=str (reportA x)∧t=[]):=by
 obtain⟨hr1,hr2⟩:=report_body hx
 refine ACalls.of_awp (n:=16) (rs:=[.tmp 2]) Tryz.func62 rfl Tryz.ntmps62 rfl ?_
 repeat'(first
 |refine AWP.seqk fun K hK=>?_
 |(refine AWP.region ?_;simp only[go_sem])
 |(refine hK _ ?_;clear hK K)
 |(refine ACall.one (mput_c (reportM x)) (by kernel_rfl) rfl ?_;simp only[go_sem])
 |(refine ACall.one (repall_c (putM (reportM x)).1 hr1 hr2) (by kernel_rfl) rfl ?_;simp only[go_sem])
 |(
  refine AWP.ret ?_
  refine AEnd.is ?_;simp only[go_sem,out_v,out_s,out_n,v_int,v_bool,v_str]<;>(rfl)))
theorem kfields_c(a:Ak)(ha:mayA a=true):ACalls E 27 [akV a] (fun r t=>r= .sl none 2 ((fieldsA a).map fldV)∧t=[]):=by
 refine ACalls.of_awp (n:=115) (rs:=[.tmp 2]) Tryz.func27 rfl Tryz.ntmps27 rfl ?_
 repeat'(first
 |refine AWP.seqk fun K hK=>?_
 |(refine AWP.region ?_;simp only[go_sem])
 |(refine AWP.here 1 7 8 rfl ?_;apply AWP.regionAnyJ (.take 0 (.take 1 (.take 2 (.fork (.alt 3 (.take 4 (.take 5 (.take 6 (.take 7 .done)))) (.alt 4 (.fork (.alt 3 (.take 5 (.take 6 (.take 7 .done))) (.alt 5 (.fork (.alt 3 (.take 6 (.take 7 .done)) (.alt 6 (.take 3 (.take 7 .done)) .ends))) .ends))) (.alt 5 (.fork (.alt 3 (.take 4 (.take 6 (.take 7 .done))) (.alt 4 (.fork (.alt 3 (.take 6 (.take 7 .done)) (.alt 6 (.take 3 (.take 7 .done)) .ends))) .ends))) .ends))))))) [[],[0],[],[2],[],[],[0,1,4,5],[0,1,2,3,4,5,6]] [3,4] (by kernel_rfl) (by kernel_rfl) (by decide);simp only[go_sem])
 |(refine AWP.here 2 11 10 rfl ?_;refine AWP.regionO [0,1,3,4,6,7,2,5,8,9] [5,6] (by kernel_rfl) (by kernel_rfl) rfl ?_;simp only[go_sem])
 |(refine AWP.here 5 21 22 rfl ?_;refine AWP.regionO [0,1,2,3,5,6,8,9,11,12,14,15,17,18,4,7,10,13,16,19,20,21] [] (by kernel_rfl) (by kernel_rfl) rfl ?_;simp only[go_sem])
 |(refine AWP.here 7 44 16 rfl ?_;refine AWP.regionO [0,1,2,3,5,6,8,9,11,12,4,7,10,13,14,15] [] (by kernel_rfl) (by kernel_rfl) rfl ?_;simp only[go_sem])
 |(refine AWP.here 9 61 8 rfl ?_;refine AWP.regionO [0,1,2,3,4,5,6,7] [] (by kernel_rfl) (by kernel_rfl) rfl ?_;simp only[go_sem])
 |(refine AWP.here 11 70 6 rfl ?_;refine AWP.regionO [0,1,2,3,4,5] [] (by kernel_rfl) (by kernel_rfl) rfl ?_;simp only[go_sem])
 |(refine AWP.here 13 77 6 rfl ?_;refine AWP.regionO [0,1,2,3,4,5] [] (by kernel_rfl) (by kernel_rfl) rfl ?_;simp only[go_sem])
 |(refine AWP.here 15 84 7 rfl ?_;refine AWP.regionO [0,1,2,3,4,5,6] [] (by kernel_rfl) (by kernel_rfl) rfl ?_;simp only[go_sem])
 |(refine AWP.here 17 92 21 rfl ?_;refine AWP.regionO [0,1,2,4,5,7,8,10,11,13,14,16,17,3,6,9,12,15,18,19,20] [] (by kernel_rfl) (by kernel_rfl) rfl ?_;simp only[go_sem])
 |(refine hK _ ?_;clear hK K)
 |refine AWP.block ?_
 |refine AWP.cond rfl (fun c=>?_) (fun c=>?_)<;>(try simp only[dD] at c)
 |refine AWP.skip ?_
 |(refine ACall.one (knumber_c _ _) (by kernel_rfl) rfl ?_;simp only[go_sem])
 |(refine ACall.one (kword_c _ _) (by kernel_rfl) rfl ?_;simp only[go_sem])
 |(refine ACall.one (kflag_c _ _) (by kernel_rfl) rfl ?_;simp only[go_sem])
 |(refine ACall.one (kreport_c a.exec (exec_may ha (by assumption))) (by kernel_rfl) rfl ?_;simp only[go_sem])
 |exact rfl
 |(
  refine AWP.ret ?_
  refine AEnd.is ?_;simp only[go_sem,out_v,out_s,out_n,v_int,v_bool,v_str]<;>(first
  |(rw[fields_k1 (by assumption)];rfl)|(rw[fields_k2 (by assumption)];rfl)|(rw[fields_k3 (by assumption)];rfl)|(rw[fields_k4 (by assumption)];rfl)|(rw[fields_k5 (by assumption)];rfl)|(rw[fields_k6 (by assumption)];rfl)|(rw[fields_k8 (by assumption)];rfl)
  |(rw[fields_k7 ⟨by omega,by omega,by omega,by omega,by omega,by omega,by omega⟩];rfl))))
theorem kput_c(a:Ak):ACalls E 9 [akV a] (fun r t=>r= .tup [bytesV (putK a).1,i64 (putK a).2]∧t=[]):=by
 refine ACalls.of_awp (n:=18) (rs:=[.tmp 2,.tmp 3]) Tryz.func9 rfl Tryz.ntmps9 rfl ?_
 repeat'(first
 |refine AWP.seqk fun K hK=>?_
 |(refine AWP.region ?_;simp only[go_sem])
 |(refine hK _ ?_;clear hK K)
 |refine AWP.cond rfl (fun c=>?_) (fun c=>?_)<;>first|exact Bool.noConfusion c|(try simp only[dD] at c)
 |refine AWP.skip ?_
 |(refine ACall.one (kmay_c a) (by kernel_rfl) rfl ?_;simp only[go_sem])
 |(refine ACall.one (kfields_c a (by assumption)) (by kernel_rfl) rfl ?_;simp only[go_sem])
 |(refine ACall.of (fput_k (by assumption)) (by kernel_rfl) rfl ?_;rintro r t ⟨rfl,rfl⟩;simp only[go_sem])
 |(
  refine AWP.ret ?_
  refine AEnd.is ?_;simp only[go_sem,out_v,out_s,out_n,v_int,v_bool,v_str]<;>(first|(rw[putK_ok (by assumption)];simp;done)|(rw[putK_no (by assumption)];exact⟨trivial,rfl⟩))))
end Go.Proofs.YthoonfpkfdjhiaaGreatDoor
end
section
namespace Go.Proofs.YthoonfpkfdjhiaaGreatDoor
open Go Go.Abs Go.RowKit Go.Bk Go.Txt
abbrev kpV(n p:Int)(k:Kp.Ks Gt):AV:= .agg [i64 n,i64 p,bytesV k.jn.d.f0.safe,bytesV k.jn.d.f0.tail,bytesV k.jn.d.f1.safe,bytesV k.jn.d.f1.tail,i64 k.jn.at',i64 k.jn.gen,vnsV k.g.venues,lmsV k.g.limits,bl k.g.kill,i64 k.g.now,i64 k.g.pat]
abbrev zkV:AV:= .agg [i64 0,i64 0,.nilS,.nilS,.nilS,.nilS,i64 0,i64 0,.nilS,.nilS,bl false,i64 0,i64 0]
theorem kpv_cl{n p:Int}{k:Kp.Ks Gt}{no nt:Nat}:∀e∈[kpV n p k],∀z∈e.leaves,z.bel no nt=true:=by
 intro e he z hz
 simp only[List.mem_singleton] at he
 subst he
 simp only[AV.leaves,List.mem_cons,List.not_mem_nil,or_false] at hz
 rcases hz with rfl|rfl|rfl|rfl|rfl|rfl|rfl|rfl|rfl|rfl|rfl|rfl|rfl<;>rfl
theorem kpv_wk{n p:Int}{k:Kp.Ks Gt}{no nt:Nat}:some [kpV n p k]=none∨∀es,some [kpV n p k]=some es→∀e∈es,∀z∈e.leaves,z.bel no nt=true:= .inr fun es h=>by cases h;exact kpv_cl
theorem zk_cl{no nt:Nat}:∀e∈[zkV],∀z∈e.leaves,z.bel no nt=true:=by
 intro e he z hz
 simp only[List.mem_singleton] at he
 subst he
 simp only[AV.leaves,List.mem_cons,List.not_mem_nil,or_false] at hz
 rcases hz with rfl|rfl|rfl|rfl|rfl|rfl|rfl|rfl|rfl|rfl|rfl|rfl|rfl<;>rfl
theorem zk_wk{no nt:Nat}:some [zkV]=none∨∀es,some [zkV]=some es→∀e∈es,∀z∈e.leaves,z.bel no nt=true:= .inr fun es h=>by cases h;exact zk_cl
theorem ksync_no{k:Kp.Ks Gt}(h:¬(Kp.syncJ k.jn).2=0):Kp.syncK k=(k,(Kp.syncJ k.jn).2):=by unfold Kp.syncK;rw[if_neg h]
theorem ksync_ok{k:Kp.Ks Gt}(h:(Kp.syncJ k.jn).2=0):Kp.syncK k=(⟨(Kp.syncJ k.jn).1,k.g⟩,0):=by unfold Kp.syncK;rw[if_pos h]
theorem put_may{a:Ak}:(putK a).2=0↔mayA a=true:=by
 unfold putK
 split
 ·rename_i h;simp[h]
 ·rename_i h;simp[h]
theorem may_of{a:Ak}(h:(putK a).2=0):mayA a=true:=put_may.1 h
theorem kdo_may{ask:Gt→Ak→Gt×Int×Int}{k:Kp.Ks Gt}{a:Ak}(h:¬(putK a).2=0):Kp.doK ask k a=(k,0,(putK a).2):=by
 unfold Kp.doK putK at *
 by_cases hm:mayA a=true
 ·rw[if_pos hm] at h;exact absurd rfl h
 ·rw[if_neg hm,if_neg hm]
theorem kdo_ask{ask:Gt→Ak→Gt×Int×Int}{k:Kp.Ks Gt}{a:Ak}(hm:mayA a=true)(h:¬(ask k.g a).2.2=0):Kp.doK ask k a=(k,0,(ask k.g a).2.2):=by unfold Kp.doK;rw[if_pos hm,if_neg h]
theorem kdo_full{ask:Gt→Ak→Gt×Int×Int}{k:Kp.Ks Gt}{a:Ak}(hm:mayA a=true)(h:(ask k.g a).2.2=0)(h2:¬(Kp.addJ k.jn (putK a).1).2=0):Kp.doK ask k a=(k,0,(Kp.addJ k.jn (putK a).1).2):=by unfold Kp.doK;rw[if_pos hm,if_pos h,if_neg h2]
theorem kdo_ok{ask:Gt→Ak→Gt×Int×Int}{k:Kp.Ks Gt}{a:Ak}(hm:mayA a=true)(h:(ask k.g a).2.2=0)(h2:(Kp.addJ k.jn (putK a).1).2=0):Kp.doK ask k a=(⟨(Kp.addJ k.jn (putK a).1).1,(ask k.g a).1⟩,(ask k.g a).2.1,0):=by unfold Kp.doK;rw[if_pos hm,if_pos h,if_pos h2]
theorem kclone_c(n p:Int)(k:Kp.Ks Gt)(hg:GtSm k.g)(hd:smD k.jn.d):ACalls E 37 [kpV n p k] (fun r t=>r=kpV n p k∧t=[]):=by
 have hg1:=hg.1
 have hg2:=hg.2.1
 obtain⟨s0,s1,s2,s3⟩:=hd
 refine ACalls.of_awp (n:=96) (rs:=[.cell 2 57]) Tryz.func37 rfl Tryz.ntmps37 rfl ?_
 repeat'(first
 |(
  refine AWP.cutTo hc7 ?_
  first
  |(refine AWP.renum [0,1,3] (by decide) rfl rfl ?_;simp only[go_sem,vn_ren,List.length_map];refine AWP.weaken ?_ (hc7 m);(try simp only[go_sem]);(repeat'(first|refine And.intro ?_ ?_|trivial|exact .inr (oblA rfl)|exact .inr bel_vns));done)
  |(have he:k.g.venues=[]:=Classical.byContradiction fun hne=>by
     have:=hbb (by simpa using hne)
     simp_all
    refine AWP.nilOwn 0 8 8 _ rfl rfl ?_
    simp only[go_sem]
    refine AWP.weaken ?_ (hc7 0);(try simp only[go_sem,he,List.length_nil,List.map_nil,spare_zero]);(repeat'(first|refine And.intro ?_ ?_|trivial|exact .inr (oblA rfl)));done))
 |refine AWP.seqk fun K hK=>?_
 |(
  refine AWP.here 7 32 7 rfl ?_
  ((fail_if_success(have h0:=hc7));refine AWP.cutAt (ι:=Nat) [32,33,34,35,36,37] (fun(m:Nat)=>[]) (fun(m:Nat)=>[some [.agg [i64 n,i64 p,bytesV k.jn.d.f0.safe,bytesV k.jn.d.f0.tail,bytesV k.jn.d.f1.safe,bytesV k.jn.d.f1.tail,i64 k.jn.at',i64 k.jn.gen,.mu 2 8 0 k.g.venues.length (k.g.venues.length+m),lmsV k.g.limits,bl k.g.kill,i64 k.g.now,i64 k.g.pat]],some [zkV],some (k.g.venues.map vnV++spare 8 m)]) (fun(m:Nat)=>[]) hK (fun m=>?_) (fun hc7=>?_)))
 |(refine Cut.mk ?_;simp only[go_sem])
 |(
  refine AWP.here 3 9 2 rfl ?_
  obtain rfl|rfl:i=0∨i=1:=by omega
  refine AWP.region ?_;simp only[go_sem])
 |(
  refine AWP.here 11 45 6 rfl ?_
  obtain⟨v,hx⟩:∃v,k.g.venues[i]?=some v:=⟨_,List.getElem?_eq_getElem (by omega)⟩
  have hv:=hg.2.2 v (List.mem_of_getElem? hx)
  have hx2:(k.g.venues.map vnV++spare 8 m)[i]?=some (vnV v):=by rw[List.getElem?_append_left (by simpa using get_lt hx),List.getElem?_map,hx];rfl
  refine AWP.region ?_;simp only[go_sem])
 |(
  refine AWP.here 13 60 11 rfl ?_
  (try rw[row_same hx])
  refine AWP.region ?_;simp only[go_sem])
 |(
  refine AWP.here 14 70 11 rfl ?_
  (try rw[row_same hx])
  refine AWP.region ?_;simp only[go_sem])
 |(
  refine AWP.here 15 80 9 rfl ?_
  (try rw[row_same hx])
  refine AWP.region ?_;simp only[go_sem])
 |(
  refine AWP.here 16 88 2 rfl ?_
  (try rw[row_same hx])
  refine AWP.region ?_;simp only[go_sem])
 |(
  refine AWP.here 18 95 2 rfl ?_
  refine AWP.publishLeaf 0 8 (jd:=2) (k:=8) (n:=k.g.venues.length) (cap:=k.g.venues.length+m) _ (k.g.venues.map vnV++spare 8 m) (by decide) rfl rfl rfl (by simp[spare_len]) (by rw[vn_take];exact cl_vn _) ?_
  rw[vn_take]
  simp only[go_sem]
  refine AWP.region ?_;simp only[go_sem])
 |(
  refine AWP.here 3 5 4 rfl ?_
  refine AWP.regionL ?_
  refine AWPL.mkMu ap52 ?_
  simp only[go_sem]
  refine AWPL.at 3 1 rfl ?_
  simp only[go_sem]
  refine AWPL.appMu sr52 ap52 rfl rfl rfl (by simp;omega) (by simp;omega) ?_
  intro m
  simp only[go_sem]
  refine AWPL.of ?_
  simp only[go_sem])
 |(refine AWP.here 7 32 7 rfl ?_;refine AWP.regionL ?_;refine AWPL.at 7 3 rfl ?_;simp only[go_sem])
 |(refine AWP.region ?_;simp only[go_sem])
 |(refine AWP.here 5 15 18 rfl ?_;refine AWP.regionO [0,1,2,3,4,5,7,8,9,10,6,11,12,13,14,15,16,17] [] (by kernel_rfl) (by kernel_rfl) rfl ?_;simp only[go_sem])
 |(refine hK _ ?_;clear hK K)
 |refine AWP.block ?_
 |refine AWP.cond rfl (fun c=>?_) (fun c=>?_)<;>(try simp only[dD] at c)
 |refine AWP.skip ?_
 |(refine AWP.exit ?_;simp only[go_sem])
 |(refine ACall.one (bclone_c _ (by omega)) (by kernel_rfl) rfl ?_;simp only[go_sem])
 |(refine ACall.one (oclone_p v.book.orders hv.1) (by kernel_rfl) rfl ?_;simp only[go_sem])
 |(refine ACall.one (oclone_p v.sent hv.2.2.2) (by kernel_rfl) rfl ?_;simp only[go_sem])
 |(refine ACall.one (dclone_p v.book.fills hv.2.1) (by kernel_rfl) rfl ?_;simp only[go_sem])
 |(refine ACall.one (sclone_p v.book.ids hv.2.2.1) (by kernel_rfl) rfl ?_;simp only[go_sem])
 |(refine ACall.one (limclone_p k.g.limits hg2) (by kernel_rfl) rfl ?_;simp only[go_sem])
 |(refine AWPL.call (rs:=[.tmp 2]) Tryz.func78 rfl Tryz.ntmps78 rfl (by kernel_rfl) rfl rfl ?_;simp only[go_sem])
 |(refine AGet.haveM (by assumption) ?_;(try simp only[go_sem]))
 |(refine AGet.have' (by assumption) ?_;(try simp only[go_sem]))
 |((with_reducible refine And.intro ?_ ?_);(focus(first|omega|(simp;done)));(try simp only[hb,go_sem]))
 |(
  refine AWP.here 2 8 1 rfl ?_
  refine AWP.loopM (ι:=Nat) [3,4,8,9,10,11,12,13,14,15,16,17,18,19,20,21,22,23,24,25,26,27,28,29,30,31] (fun(i:Nat)=>[(7,i64 i)]) (fun(i:Nat)=>[some [kpV n p k],some [zkV]]) (fun(i:Nat)=>[]) (fun(i:Nat)=>i≤2) (fun(i:Nat)=>2-i) (0) ?_ ?_ ?_
  ·(try simp only[go_sem]);(try simp only[go_sem,w641,w642]);(repeat'(first|exact kpv_wk|exact zk_wk|refine And.intro ?_ ?_))
  ·omega
  rintro i h1
  simp only[go_sem])
 |(
  refine AWP.here 9 43 1 rfl ?_
  refine AWP.loopN (ι:=Nat) [5,6,43,44,45,46,47,48,49,50,51,52,53,54,55,56,57,58,59,60,61,62,63,64,65,66,67,68,69,70,71,72,73,74,75,76,77,78,79,80,81,82,83,84,85,86,87,88] (fun(i:Nat)=>[(42,i64 i)]) (fun(i:Nat)=>i≤k.g.venues.length) (fun(i:Nat)=>k.g.venues.length-i) (0) ?_ ?_ ?_
  ·(try simp only[go_sem]);(repeat'(first|refine And.intro ?_ ?_|trivial|exact .inr (oblA rfl)|exact .inr bel_vns));done
  ·omega
  rintro i h1
  simp only[go_sem])
 |(
  refine⟨1,?_,?_,?_⟩
  ·(try simp only[go_sem]);(try rw[wrap64_id (by omega) (by omega)]);(try simp only[go_sem,w641,w642]);(repeat'(first|exact kpv_wk|exact zk_wk|refine And.intro ?_ ?_))
  ·omega
  ·(try simp only[]);omega)
 |(
  refine⟨2,?_,?_,?_⟩
  ·(try simp only[go_sem]);(try rw[wrap64_id (by omega) (by omega)]);(try simp only[go_sem,w641,w642]);(repeat'(first|exact kpv_wk|exact zk_wk|refine And.intro ?_ ?_))
  ·omega
  ·(try simp only[]);omega)
 |(
  refine⟨i+1,?_,?_,?_⟩
  ·(try simp only[go_sem]);(try rw[wrap64_id (by omega) (by omega)]);(repeat'(first|refine And.intro ?_ ?_|exact .inr rfl|trivial|exact .inr (oblA rfl)|exact .inr bel_vns));done
  ·omega
  ·(try simp only[]);omega)
 |(
  refine AWP.ret ?_
  refine AEnd.is ?_;simp only[go_sem,out_v,out_s,out_n,v_int,v_bool,v_str]<;>(first|fail))
 |(refine AWP.ret ?_;refine AInPost.ret rfl ?_;simp only[go_sem])
 |(refine AWP.ret ?_;simp only[inb_ret,athen_ret];refine AInPost.ret rfl ?_;simp only[go_sem])
 |(refine AWPL.of ?_;simp only[go_sem])
 |((fail_if_success(have:=hbb));(with_reducible intro bb hbb))
 |refine AWP.fin (by assumption) ?_)
theorem ksync_c(n p:Int)(k:Kp.Ks Gt)(hg:GtSm k.g)(hd:smD k.jn.d):ACalls E 16 [kpV n p k] (fun r t=>r= .tup [kpV n p (Kp.syncK k).1,i64 (Kp.syncK k).2]∧t=[]):=by
 refine ACalls.of_awp (n:=22) (rs:=[.cell 2 57,.tmp 3]) Tryz.func16 rfl Tryz.ntmps16 rfl ?_
 repeat'(first
 |refine AWP.seqk fun K hK=>?_
 |(refine AWP.region ?_;simp only[go_sem])
 |(refine hK _ ?_;clear hK K)
 |refine AWP.cond rfl (fun c=>?_) (fun c=>?_)<;>(try simp only[dD] at c)
 |refine AWP.skip ?_
 |(refine ACall.one (kclone_c n p k hg hd) (by kernel_rfl) rfl ?_;simp only[go_sem])
 |(refine ACall.one (jsync_c k.jn hd) (by kernel_rfl) rfl ?_;simp only[go_sem])
 |(
  refine AWP.ret ?_
  refine AEnd.is ?_;simp only[go_sem,out_v,out_s,out_n,v_int,v_bool,v_str]<;>(first|(rw[ksync_no (by assumption)];exact⟨⟨rfl,rfl,rfl,rfl,rfl,rfl,rfl,rfl,rfl,rfl,rfl⟩,rfl⟩)|(rw[ksync_ok (by assumption)];exact⟨⟨rfl,rfl,rfl,rfl,rfl,rfl,rfl,rfl,rfl,rfl,rfl⟩,rfl⟩))))
theorem kdo_c(ask:Gt→Ak→Gt×Int×Int)(n p:Int)(k:Kp.Ks Gt)(a:Ak)(hg:GtSm k.g)(hd:smD k.jn.d)(hl:mayA a=true→(putK a).1.length≤1000000)(hask:mayA a=true→ACalls E 38 [gtV k.g,akV a] (fun r t=>r= .tup [gtV (ask k.g a).1,i64 (ask k.g a).2.1,i64 (ask k.g a).2.2]∧t=[])):ACalls E 14 [kpV n p k,akV a] (fun r t=>r= .tup [kpV n p (Kp.doK ask k a).1,i64 (Kp.doK ask k a).2.1,i64 (Kp.doK ask k a).2.2]∧t=[]):=by
 refine ACalls.of_awp (n:=53) (rs:=[.cell 4 57,.tmp 5,.tmp 6]) Tryz.func14 rfl Tryz.ntmps14 rfl ?_
 repeat'(first
 |refine AWP.seqk fun K hK=>?_
 |(refine AWP.region ?_;simp only[go_sem])
 |(refine AWP.here 11 47 6 rfl ?_;apply AWP.regionAnyJ (.take 0 (.take 2 (.fork (.alt 1 (.take 3 (.take 4 (.take 5 .done))) (.alt 3 (.take 1 (.take 4 (.take 5 .done))) .ends))))) [[],[],[0],[0,2],[0,1,2,3],[0,1,2,3,4]] [] (by kernel_rfl) (by kernel_rfl) (by decide);simp only[go_sem])
 |(refine hK _ ?_;clear hK K)
 |refine AWP.cond rfl (fun c=>?_) (fun c=>?_)<;>(try simp only[dD] at c)
 |refine AWP.skip ?_
 |(refine ACall.one (kclone_c n p k hg hd) (by kernel_rfl) rfl ?_;simp only[go_sem])
 |(refine ACall.one (kput_c a) (by kernel_rfl) rfl ?_;simp only[go_sem])
 |(refine ACall.one (hask (may_of (by assumption))) (by kernel_rfl) rfl ?_;simp only[go_sem])
 |(refine ACall.one (jadd_c k.jn (putK a).1 hd (hl (may_of (by assumption)))) (by kernel_rfl) rfl ?_;simp only[go_sem])
 |exact rfl
 |(
  refine AWP.ret ?_
  refine AEnd.is ?_;simp only[go_sem,out_v,out_s,out_n,v_int,v_bool,v_str]<;>(first|(rw[kdo_may (by assumption)];exact⟨⟨rfl,rfl,rfl,rfl,rfl,rfl,rfl,rfl,rfl,rfl,rfl⟩,rfl,rfl⟩)|(rw[kdo_ask (may_of (by assumption)) (by assumption)];exact⟨⟨rfl,rfl,rfl,rfl,rfl,rfl,rfl,rfl,rfl,rfl,rfl⟩,rfl,rfl⟩)|(rw[kdo_full (may_of (by assumption)) (by assumption) (by assumption)];exact⟨⟨rfl,rfl,rfl,rfl,rfl,rfl,rfl,rfl,rfl,rfl,rfl⟩,rfl,rfl⟩)|(rw[kdo_ok (may_of (by assumption)) (by assumption) (by assumption)];exact⟨⟨rfl,rfl,rfl,rfl,rfl,rfl,rfl,rfl,rfl,rfl,rfl⟩,rfl,rfl⟩))))
end Go.Proofs.YthoonfpkfdjhiaaGreatDoor
end
section
namespace Go.Proofs.YthoonfpkfdjhiaaGreatDoor
open Go Go.Abs Go.RowKit Go.Bk
end Go.Proofs.YthoonfpkfdjhiaaGreatDoor
end
section
namespace Go.Proofs.YthoonfpkfdjhiaaGreatDoor
open Go Go.Abs Go.RowKit Go.Bk
end Go.Proofs.YthoonfpkfdjhiaaGreatDoor
end
section
namespace Go.Proofs.YthoonfpkfdjhiaaGreatDoor
open Go Go.Abs Go.RowKit Go.Bk
theorem zs_ok:∀(j:Nat) (z z':AV),([.nilS,.nilS,.nilS,.v (.int .i64 0),.v (.int .i64 0),.nilS,.v (.int .i64 0),.v (.bool false)]:List AV)[j]?=some z→([.sl none 8 [],.sl none 9 [],.sl none 1 [],i64 0,i64 0,.sl none 8 [],i64 0,bl false]:List AV)[j]?=some z'→z'=z∨(z= .nilS∧∃q,z'= .sl none q []):=by
 intro j z z' h1 h2
 match j with
 |0=>cases h1;cases h2;exact .inr ⟨rfl,_,rfl⟩
 |1=>cases h1;cases h2;exact .inr ⟨rfl,_,rfl⟩
 |2=>cases h1;cases h2;exact .inr ⟨rfl,_,rfl⟩
 |3=>cases h1;cases h2;exact .inl rfl
 |4=>cases h1;cases h2;exact .inl rfl
 |5=>cases h1;cases h2;exact .inr ⟨rfl,_,rfl⟩
 |6=>cases h1;cases h2;exact .inl rfl
 |7=>cases h1;cases h2;exact .inl rfl
 |j+8=>simp at h1
theorem gnew_c(n p:Int):ACalls E 20 [i64 n,i64 p] (fun r t=>r= .tup [gtV (newG n p).1,i64 (newG n p).2]∧t=[]):=by
 refine ACalls.of_awp (n:=22) (rs:=[.cell 4 55,.tmp 5]) Tryz.func20 rfl Tryz.ntmps20 rfl ?_
 repeat'(first
 |refine AWP.seqk fun K hK=>?_
 |(
  refine AWP.here 3 18 6 rfl ?_
  have hnn:∃m:Nat,n=(m:Int)∧1≤m∧m≤4:=⟨n.toNat,by omega,by omega,by omega⟩
  obtain⟨m,rfl,hm1,hm4⟩:=hnn
  refine AWP.regionL ?_
  refine AWPL.at 6 1 rfl ?_
  simp only[go_sem]
  refine AWPL.makeS (m:=m) (zs':=[.sl none 8 [],.sl none 9 [],.sl none 1 [],i64 0,i64 0,.sl none 8 [],i64 0,bl false]) ap52 tz107 rfl rfl rfl zs_ok (by omega) (by decide) (by decide) ?_
  simp only[go_sem]
  refine AWPL.of ?_
  simp only[go_sem])
 |(refine AWP.region ?_;simp only[go_sem])
 |(refine hK _ ?_;clear hK K)
 |refine AWP.cond rfl (fun c=>?_) (fun c=>?_)<;>first|exact Bool.noConfusion c|(try simp only[dD] at c)
 |refine AWP.skip ?_
 |(refine ACall.one (gtime_c _) (by kernel_rfl) rfl ?_;simp only[go_sem])
 |(refine AGuard.splitN (fun h=>?_) (fun h=>?_)<;>simp only[h,go_sem]<;>(try simp only[dD] at h))
 |(
  refine AWP.ret ?_
  refine AEnd.is ?_;simp only[go_sem,out_v,out_s,out_n,v_int,v_bool,v_str,vnsV,lmsV]<;>(first|(rw[new_no (.inl (by assumption))];simp;done)|(rw[new_no (.inr (.inl (by assumption)))];simp;done)|(rw[new_no (.inr (.inr (by assumption)))];simp;done)|(rw[new_yes (by omega) (by omega) (by assumption)];simp[zeroV];done))))
end Go.Proofs.YthoonfpkfdjhiaaGreatDoor
end
section
namespace Go.Proofs.YthoonfpkfdjhiaaGreatDoor
open Go Go.Abs Go.RowKit Go.Bk Go.Msg Go.Txt
set_option maxRecDepth 1000000 in
theorem countNil(cap b2 o2 d:Nat)(cv:Int)(w:World)(h2:w.cell? ⟨b2,o2,none⟩=some (.int .u8 cv)):Calls Tryz.prog 194 #[.slice none 0 cap,.slice (some ⟨b2,o2,none⟩) 1 d] w fun e w'=>e= .returned (.int .i64 0)∧w'=w:=by
 have L:=Tryz.laysSlB13
 have mixed:=L.mixed
 have t0:=L.t0;have t3:=L.t3;have t4:=L.t4;have t5:=L.t5;have a0:=L.a0;have a3:=L.a3;have a4:=L.a4;have a5:=L.a5
 have z0:=L.z0;have z3:=L.z3;have z4:=L.z4;have z5:=L.z5;have v0:=L.v0;have v3:=L.v3;have v4:=L.v4;have v5:=L.v5
 go_enter Tryz.func194,Tryz.ntmps194
 go_wp2
 rw[run_callFunc_extern Tryz.func232 (by kernel_rfl) (by kernel_rfl) (by kernel_rfl) (e:=Extern.BytealgCount.count) (by kernel_rfl),Lib.run_countNil w 0 cap cv]
 simp only[Result.andThen]
 rw[Oper.upon_value]
 go_wp2
 go_ret
 exact⟨rfl,rfl⟩
theorem bcount0_c(c:UInt8):ACalls E 194 [bytesV [],bytesV [c]] (fun r t=>r=i64 0∧t=[]):=by
 intro w im vs hok hg him hpw
 obtain⟨hn,hp⟩:=hpw
 match vs,hn with
 |[v0,v1],_=>
  have h0:=hp 0 _ v0 rfl rfl
  have h1:=hp 1 _ v1 rfl rfl
  obtain⟨b2,o2,d,rfl,hb2⟩:=sl_cells him (by simp) h1
  have h2:w.cell? ⟨b2,o2,none⟩=some (.int .u8 c.toNat):=by simpa using hb2 0 (by simp)
  obtain⟨a,cap,rfl,hcap,hes⟩:=h0.inv_sl
  cases a with
  |none=>
   refine(countNil cap b2 o2 d c.toNat w h2).mono ?_
   rintro e w' ⟨rfl,rfl⟩
   exact⟨_,_,[],im,rfl,kb (Go.RowKit.Below.refl _ _),.refl _,fun _ _ _=>rfl,him,⟨by simp,by simp⟩,.base (.v _),rfl,rfl⟩
  |some a=>
   refine(Tryz.bytes_Count_one_at a 0 cap b2 o2 d [] c.toNat w rfl (by intro i hi;omega) h2).mono ?_
   rintro e w' ⟨rfl,rfl⟩
   exact⟨_,_,[],im,rfl,kb (Go.RowKit.Below.refl _ _),.refl _,fun _ _ _=>rfl,him,⟨by simp,by simp⟩,.base (.v _),rfl,rfl⟩
theorem repl0_c(bo bn:UInt8):ACalls E 161 [bytesV [],.sl none 1 [u8 bo],.sl none 1 [u8 bn],i64 (-1)] (fun r t=>r=bytesV []∧t=[]):=by
 refine ACalls.of_awp (n:=132) (rs:=[.tmp 8]) Tryz.func161 rfl Tryz.ntmps161 rfl ?_
 repeat'(first
 |refine AWP.seqk fun K hK=>?_
 |(refine AWP.region ?_;simp only[go_sem])
 |(refine hK _ ?_;clear hK K)
 |refine AWP.cond rfl (fun c=>?_) (fun c=>?_)<;>first|exact Bool.noConfusion c|(try simp only[dD] at c)
 |(refine ACall.one (bcount0_c bo) (by kernel_rfl) rfl ?_;simp only[go_sem])
 |(
  refine AWP.ret ?_
  refine AEnd.is ?_;simp only[go_sem,out_v,out_s,out_n,v_int,v_bool,v_str]<;>(first|fail)))
theorem repall0_c(bo bn:UInt8):ACalls E 118 [bytesV [],.sl none 1 [u8 bo],.sl none 1 [u8 bn]] (fun r t=>r=bytesV []∧t=[]):=by
 refine ACalls.of_awp (n:=11) (rs:=[.tmp 6]) Tryz.func118 rfl Tryz.ntmps118 rfl ?_
 repeat'(first
 |refine AWP.seqk fun K hK=>?_
 |(refine AWP.region ?_;simp only[go_sem])
 |(refine hK _ ?_;clear hK K)
 |(refine ACall.one (repl0_c bo bn) (by kernel_rfl) rfl ?_;simp only[go_sem])
 |(
  refine AWP.ret ?_
  refine AEnd.is ?_;simp only[go_sem,out_v,out_s,out_n,v_int,v_bool,v_str]<;>(first|fail)))
theorem repall21_c(s:List UInt8)(hs:s.length≤5000):ACalls E 118 [bytesV s,.sl none 1 [u8 2],.sl none 1 [u8 1]] (fun r t=>r=bytesV (s.map turn21)∧t=[]):=by
 by_cases h:s=[]
 ·subst h;exact repall0_c 2 1
 ·exact repall_g 2 1 s h hs
end Go.Proofs.YthoonfpkfdjhiaaGreatDoor
end
section
namespace Go.Proofs.YthoonfpkfdjhiaaGreatDoor
open Go Go.Abs Go.RowKit Go.Fld
theorem cut_at(l:Bs)(c:UInt8):Lib.cut l [c]=match cutB c l with|none=>(l,[],false)|some p=>(p.1,p.2,true):=by
 have hi:Lib.index l [c]=Lib.indexByte l c:=by
  induction l with
  |nil=>rfl
  |cons b l ih=>
   unfold Lib.index Lib.indexByte
   rw[ih]
   have:[c].isPrefixOf (b::l)=(b==c):=by
    simp only[List.isPrefixOf,Bool.and_true]
    rw[Bool.eq_iff_iff,beq_iff_eq,beq_iff_eq];exact eq_comm
   rw[this]
 unfold Lib.cut
 rw[hi,index_cut]
 cases h:cutB c l with
 |none=>rfl
 |some p=>
  obtain⟨a,b⟩:=p
  obtain⟨h1,_⟩:=cutB_some.1 h
  have e:l.drop (a.length+1)=b:=by rw[h1,←List.drop_drop,List.drop_left];rfl
  have e2:l.take a.length=a:=by rw[h1,List.take_left]
  show(if 0≤(a.length:Int) then(l.take a.length,l.drop (a.length+1),true) else(l,[],false))=(a,b,true)
  rw[if_pos (by omega),e,e2]
theorem sCut_c(s:Bs)(c:UInt8)(hs:s.length<4294967281):ACalls E 124 [str s,str [c]] (fun r t=>t=[]∧r=match cutB c s with|none=> .tup [str s,str [],bl false]|some p=> .tup [str p.1,str p.2,bl true]):=by
 have hsz:(⟨s.toArray⟩:ByteArray).size=s.length:=by simp[ByteArray.size]
 exact ACalls.of_below (E:=E) (f:=124) (xs:=[.string ⟨s.toArray⟩,.string ⟨[c].toArray⟩]) (S:=fun v=>v= .tuple #[.string ⟨(Lib.cut s [c]).1.toArray⟩,.string ⟨(Lib.cut s [c]).2.1.toArray⟩,.bool (Lib.cut s [c]).2.2])
  (fun w hok=>by
    obtain⟨m,hm⟩:=hok.2.2
    exact(Tryz.strings_Cut ⟨s.toArray⟩ ⟨[c].toArray⟩ m w (by rw[hsz];exact hs) hm).mono (by
     rintro e w' ⟨rfl,n,rfl⟩
     exact⟨⟨_,rfl,rfl⟩,kb (below_drewN w n)⟩))
  (by
    rintro v rfl
    refine⟨_,fun _=>tup3 _ _ _,rfl,?_⟩
    rw[cut_at]
    cases cutB c s<;>rfl)
set_option maxRecDepth 100000 in
theorem idxNil(cap:Nat)(cv:Int)(w:World):Calls Tryz.prog 70 #[.slice none 0 cap,.int .u8 cv] w fun e w'=>e= .returned (.int .i64 (-1))∧w'=w:=by
 have L:=Tryz.lays187
 have t3:=L.t3;have t5:=L.t5;have t37:=L.t37
 have a3:=L.a3;have a5:=L.a5;have a37:=L.a37
 have mixed:=L.mixed;have z3:=L.z3;have v3:=L.v3;have z5:=L.z5;have v5:=L.v5;have z37:=L.z37;have v37:=L.v37
 go_enter Tryz.func70,Tryz.ntmps70
 go_wp2
 rw[run_callFunc_extern Tryz.func123 (by kernel_rfl) (by kernel_rfl) (by kernel_rfl) (e:=Extern.BytealgIndexByte.indexByte) (by kernel_rfl),Lib.run_indexByteNil w 0 cap cv]
 simp only[Result.andThen]
 rw[Oper.upon_value]
 go_wp2
 go_ret
 exact⟨rfl,rfl⟩
theorem bIndex_c(l:Bs)(c:UInt8):ACalls E 70 [bytesV l,.v (.int .u8 c.toNat)] (fun r t=>r=i64 (Lib.indexByte l c)∧t=[]):=by
 intro w im vs hok hg him hpw
 obtain⟨hn,hp⟩:=hpw
 match vs,hn with
 |[v0,v1],_=>
  have h0:=hp 0 _ v0 rfl rfl
  have h1:=hp 1 _ v1 rfl rfl
  cases h1
  have fin:∀(z:Int),z=Lib.indexByte l c→∀(e:Ending) (w':World),(e= .returned (.int .i64 z)∧w'=w)→∃v r tks im',e= .returned v∧Go.Abs.Below E.dr w.heap.size w w'∧im.le im'∧(∀(b o:Nat),b<w.heap.size→im' b o=im b o)∧
   (∀(b o:Nat) (x:Value),im' b o=some x→w'.cell? ⟨b,o,none⟩=some x)∧ToksOK im' w.heap.size w' tks∧VR ⟨[],tks,im'⟩ r v∧(r=i64 (Lib.indexByte l c)∧tks.map (·.tail)=[]):=by
   rintro z rfl e w' ⟨rfl,rfl⟩
   exact⟨_,_,[],im,rfl,kb (Go.RowKit.Below.refl _ _),.refl _,fun _ _ _=>rfl,him,⟨by simp,by simp⟩,.base (.v _),rfl,rfl⟩
  obtain⟨a,cap,rfl,hcap,hes⟩:=h0.inv_sl
  cases a with
  |none=>
   have hl:l=[]:=by
    rcases hes with h|⟨b,o,h,_⟩
    ·simpa using h
    ·cases h
   subst hl
   exact(idxNil cap _ w).mono fun e w' h=>fin _ rfl e w' h
  |some a=>
   refine(Tryz.bytes_IndexByte_at a (l.map u8).length cap (l.map fun b=>(b.toNat:Int)) c.toNat w (by simp) ?_).mono fun e w' h=>fin _ ?_ e w' h
   ·intro i hi
    rcases hes with h|⟨b,o,h,hk,cv,hm,h1,hv⟩
    ·rw[h] at hi;simp at hi
    ·cases h
     have hi':i<l.length:=by simpa using hi
     have hx:l[i]?=some l[i]:=List.getElem?_eq_getElem hi'
     have he:(l.map u8)[i]?=some (u8 l[i]):=by rw[List.getElem?_map,hx];rfl
     have h2:=hm i _ 0 _ he rfl
     have h3:=hv i _ 0 _ he rfl
     have h4:=him _ _ _ h2
     have h5:cv i 0= .int .u8 (l[i].toNat:Nat):=by
      generalize cv i 0=z at h3
      cases h3;rfl
     rw[h5] at h4
     have h6:(l.map fun b=>(b.toNat:Int)).getD i 0=(l[i].toNat:Int):=by
      rw[List.getD_eq_getElem?_getD,List.getElem?_map,hx];rfl
     rw[h6]
     simp only[Nat.mul_one,Nat.add_zero] at h4
     simp only[Addr.add]
     split
     ·rename_i h0;subst h0;simpa using h4
     ·exact h4
   ·have:Lib.bytesOf (l.map fun b=>(b.toNat:Int))=l:=by
     unfold Lib.bytesOf
     rw[List.map_map]
     conv=>rhs;rw[←List.map_id l]
     apply List.map_congr_left
     intro b _
     simp
    rw[this];simp
theorem r2right_c(f:Fld.Fd)(hf:f.2.length≤9223372036854775807):ACalls E 69 [fldV f] (fun r t=>r=bl (rightF f)∧t=[]):=by
 refine ACalls.of_awp (n:=34) (rs:=[.tmp 2]) Tryz.func69 rfl Tryz.ntmps69 rfl ?_
 refine AWP.seqk fun K1 hK1=>?_
 refine AWP.region ?_
 simp only[go_sem]
 refine hK1 _ ?_;clear hK1 K1
 refine AWP.seqk fun K2 hK2=>?_
 refine AWP.seqk fun K3 hK3=>?_
 refine AWP.region ?_
 simp only[go_sem]
 refine hK3 _ ?_;clear hK3 K3
 refine AWP.block ?_
 refine AWP.loopH (ι:=Nat) [2,4,5,6,7,8,9,10,11,12,13,14,15,16,17,18,19] (fun(i:Nat)=>[(3,i64 i)]) (fun(i:Nat)=>i≤f.2.length∧i≤256∧(1:UInt8)∉f.2.take i) (fun(i:Nat)=>f.2.length-i) (0) ?_ ?_ ?_
 ·(try simp only[go_sem]);try(simp;done)
 ·simp
 rintro i ⟨h1,h2,h3⟩
 simp only[go_sem]
 refine AWP.seqk fun K4 hK4=>?_
 refine AWP.seqk fun K5 hK5=>?_
 refine AWP.region ?_
 simp only[go_sem]
 refine hK5 _ ?_;clear hK5 K5
 refine AWP.cond rfl (fun c8=>?_) (fun c8=>?_)
 ·(
   try simp only[dD] at c8
   refine AWP.skip ?_
   refine hK4 _ ?_;clear hK4 K4
   refine AWP.seqk fun K6 hK6=>?_
   refine AWP.block ?_
   refine AWP.seqk fun K7 hK7=>?_
   refine AWP.region ?_
   simp only[go_sem]
   repeat'(first|(refine AGuard.splitN (fun h=>?_) (fun h=>?_)<;>simp only[h,go_sem]<;>try simp only[dD] at h)|((refine AGet.nth1 ?_ (fun b hb=>?_));(focus((omega)));(try simp only[hb,go_sem])))
   all_goals(
    refine hK7 _ ?_;clear hK7 K7
    refine AWP.cond rfl (fun c19=>?_) (fun c19=>?_)
    ·(
      try simp only[dD] at c19
      refine AWP.seqk fun K8 hK8=>?_
      refine AWP.region ?_
      simp only[go_sem]
      refine hK8 _ ?_;clear hK8 K8
      refine AWP.ret ?_
      try simp only[go_sem]
      clear hK6 K6 hK2 K2
      refine⟨[],.v _,rfl,rfl,congrArg bl (right_eq ?_),rfl⟩
      constructor
      ·intro e
       (exact absurd e (by decide))
      ·rintro⟨g1,g2,g3,g4,g5⟩
       first
       |exact absurd (mem_at (c:=1) hb h rfl) g5
       |(exfalso;omega))
    ·first|exact Bool.noConfusion c19|(
      try simp only[dD] at c19
      refine AWP.skip ?_
      refine hK6 _ ?_;clear hK6 K6
      refine AWP.region ?_
      simp only[go_sem]
      clear hK2 K2
      refine⟨i+1,?_,?_,?_⟩
      ·(try simp only[go_sem]);(try rw[wrap64_id (by omega) (by omega)]);simp
      ·exact⟨by omega,by omega,nmem_next hb h3 (u8_ne (n:=1) h rfl)⟩
      ·omega)))
 ·(
   try simp only[dD] at c8
   refine AWP.exit ?_
   simp only[go_sem]
   clear hK4 K4
   refine hK2 _ ?_;clear hK2 K2
   refine AWP.seqk fun K9 hK9=>?_
   refine AWP.region ?_
   simp only[go_sem]
   repeat'((refine AGuard.split (fun h=>?_) (fun h=>?_)<;>simp only[h,go_sem]<;>try simp only[dD] at h))
   all_goals(
    refine hK9 _ ?_;clear hK9 K9
    refine AWP.ret ?_
    try simp only[go_sem]
    refine⟨[],.v _,rfl,rfl,congrArg bl (right_eq ?_),rfl⟩
    constructor
    ·intro e
     first
     |exact absurd e (by decide)
     |(simp only[decide_eq_true_eq,Bool.false_eq_true] at e
       have h4:f.2.take i=f.2:=List.take_of_length_le (by omega)
       rw[h4] at h3
       exact⟨by omega,by omega,by omega,by omega,h3⟩)
    ·rintro⟨g1,g2,g3,g4,g5⟩
     first
     |(simp only[decide_eq_true_eq];omega)
     |(exfalso;omega)))
theorem bequal_c(a b:List UInt8):ACalls E 36 [bytesV a,bytesV b] (fun r t=>r=bl (decide (a=b))∧t=[]):=by
 refine ACalls.of_awp (n:=10) (rs:=[.tmp 4]) Tryz.func36 rfl Tryz.ntmps36 rfl ?_
 repeat'(first
 |refine AWP.seqk fun K hK=>?_
 |(refine AWP.region ?_;simp only[go_sem])
 |(refine hK _ ?_;clear hK K)
 |(
  refine AWP.ret ?_
  refine AEnd.is ?_;simp only[go_sem,out_v,out_s,out_n,v_int,v_bool,v_str]<;>(simp[])))
theorem r2put_c(l:List Fld.Fd)(hl:∀f∈l,f.2.length≤9223372036854775807):ACalls E 33 [fldsV l] (fun r t=>r= .tup [.sl (some 0) 1 ((putF l).1.map u8),i64 (putF l).2]∧t=[(putF l).1.length]):=by
 refine ACalls.of_awp (n:=45) (rs:=[.tmp 2,.tmp 3]) Tryz.func33 rfl Tryz.ntmps33 rfl ?_
 refine AWP.seqk fun K1 hK1=>?_
 refine AWP.region ?_
 simp only[go_sem]
 refine hK1 _ ?_;clear hK1 K1
 refine AWP.seqk fun K2 hK2=>?_
 refine AWP.seqk fun K3 hK3=>?_
 refine AWP.region ?_
 simp only[go_sem]
 repeat'(((with_reducible refine And.intro ?_ ?_);(focus(((simp;done))));(try simp only[hb,go_sem])))
 refine hK3 _ ?_;clear hK3 K3
 refine AWP.cond rfl (fun c8=>?_) (fun c8=>?_)
 ·(
   try simp only[dD] at c8
   refine AWP.seqk fun K4 hK4=>?_
   refine AWP.region ?_
   simp only[go_sem]
   refine hK4 _ ?_;clear hK4 K4
   refine AWP.ret ?_
   try simp only[go_sem]
   clear hK2 K2
   (exact⟨[(false,1)],.tup [.sl (some 0) 1 [],.v _],rfl,⟨rfl,rfl,trivial⟩,by rw[put_long (by omega)];rfl,by rw[put_long (by omega)];rfl⟩))
 ·(
   try simp only[dD] at c8
   refine AWP.skip ?_
   refine hK2 _ ?_;clear hK2 K2
   refine AWP.seqk fun K5 hK5=>?_
   refine AWP.region ?_
   simp only[go_sem]
   refine hK5 _ ?_;clear hK5 K5
   refine AWP.seqk fun K6 hK6=>?_
   refine AWP.seqk fun K7 hK7=>?_
   refine AWP.region ?_
   simp only[go_sem]
   refine hK7 _ ?_;clear hK7 K7
   refine AWP.block ?_
   refine AWP.nilTok 4 1 rfl ?_
   simp only[go_sem]
   refine AWP.loopO (ι:=Nat) [2,3,9,10,11,12,13,14,15,16,17,18,19,20,21,22,23,24,25,26,27,28,29,30,31,32,33,34,35,36,37,38,39,40,41,42,43] (fun(i:Nat)=>[(4,.sl (some 0) 1 ((encL (l.take i)).map u8)),(5,i64 i)]) (fun(i:Nat)=>[]) (fun(i:Nat)=>[(encL (l.take i)).length]) (fun(i:Nat)=>i≤l.length∧(l.take i).all rightF=true) (fun(i:Nat)=>l.length-i) (0) ?_ ?_ ?_
   ·(try simp only[go_sem]);simp[encL]
   ·simp
   rintro i ⟨h1,h2⟩
   simp only[go_sem]
   refine AWP.seqk fun K8 hK8=>?_
   refine AWP.seqk fun K9 hK9=>?_
   refine AWP.region ?_
   simp only[go_sem]
   repeat'(((with_reducible refine And.intro ?_ ?_);(focus(((simp;done))));(try simp only[hb,go_sem])))
   refine hK9 _ ?_;clear hK9 K9
   refine AWP.cond rfl (fun c12=>?_) (fun c12=>?_)
   ·(
     try simp only[dD] at c12
     refine AWP.skip ?_
     refine hK8 _ ?_;clear hK8 K8
     refine AWP.seqk fun K10 hK10=>?_
     refine AWP.block ?_
     refine AWP.seqk fun K11 hK11=>?_
     refine AWP.seqk fun K12 hK12=>?_
     refine AWP.region ?_
     simp only[go_sem]
     repeat'(first|(refine ACall.one (r2right_c (_,_) (by(exact hl _ (List.mem_of_getElem? hb)))) (by kernel_rfl) rfl ?_;simp only[go_sem])|((refine AGet.nth ?_ (fun b hb=>?_));(focus((omega)));(try simp only[hb,go_sem])))
     refine hK12 _ ?_;clear hK12 K12
     refine AWP.cond rfl (fun c20=>?_) (fun c20=>?_)
     ·(
       try simp only[dD] at c20
       refine AWP.seqk fun K13 hK13=>?_
       refine AWP.region ?_
       simp only[go_sem]
       refine hK13 _ ?_;clear hK13 K13
       refine AWP.ret ?_
       try simp only[go_sem]
       clear hK11 K11 hK10 K10 hK6 K6
       (exact⟨[(false,1)],.tup [.sl (some 0) 1 [],.v _],rfl,⟨rfl,rfl,trivial⟩,by rw[put_bad (by omega) hb c20];rfl,by rw[put_bad (by omega) hb c20];rfl⟩))
     ·(
       try simp only[dD] at c20
       refine AWP.skip ?_
       refine hK11 _ ?_;clear hK11 K11
       refine AWP.seqk fun K14 hK14=>?_
       have hl0:=enc_take h2
       have hl1:=show_len b.1
       have hl2:=rightF_iff.1 c20
       refine AWP.region ?_
       simp only[go_sem]
       repeat'(first|(refine ACall.one (r1show_c _) (by kernel_rfl) rfl ?_;simp only[go_sem])|(refine AGet.haveM (by assumption) ?_;(try simp only[go_sem]))|((with_reducible refine And.intro ?_ ?_);(focus((omega)));(try simp only[hb,go_sem])))
       refine hK14 _ ?_;clear hK14 K14
       refine AWP.seqk fun K15 hK15=>?_
       refine AWP.region ?_
       simp only[go_sem]
       repeat'(((with_reducible refine And.intro ?_ ?_);(focus((omega)));(try simp only[hb,go_sem])))
       refine hK15 _ ?_;clear hK15 K15
       refine AWP.seqk fun K16 hK16=>?_
       refine AWP.region ?_
       simp only[go_sem]
       repeat'(first|(refine AGet.haveM (by assumption) ?_;(try simp only[go_sem]))|((with_reducible refine And.intro ?_ ?_);(focus((omega)));(try simp only[hb,go_sem])))
       refine hK16 _ ?_;clear hK16 K16
       refine AWP.region ?_
       simp only[go_sem]
       repeat'(((with_reducible refine And.intro ?_ ?_);(focus((omega)));(try simp only[hb,go_sem])))
       refine hK10 _ ?_;clear hK10 K10
       refine AWP.region ?_
       simp only[go_sem]
       clear hK6 K6
       refine⟨i+1,?_,?_,?_⟩
       ·rw[enc_next hb,wrap64_id (by omega) (by omega)];simp;try omega
       ·exact⟨by omega,by rw[take_next hb,List.all_append,h2];simp[c20]⟩
       ·omega))
   ·(
     try simp only[dD] at c12
     refine AWP.exit ?_
     simp only[go_sem]
     clear hK8 K8
     refine hK6 _ ?_;clear hK6 K6
     refine AWP.seqk fun K17 hK17=>?_
     refine AWP.region ?_
     simp only[go_sem]
     refine hK17 _ ?_;clear hK17 K17
     refine AWP.ret ?_
     try simp only[go_sem]
     (exact⟨[(true,0)],.tup [.sl (some 0) 1 _,.v _],rfl,⟨⟨rfl,rfl,rfl⟩,rfl,trivial⟩,by rw[put_ok (by omega) c12 h2],by rw[put_ok (by omega) c12 h2];rfl⟩)))
theorem fread_c(s:Bs)(hs:s.length<4294967281):ACalls E 71 [str s] (fun r t=>r= .tup [fldV (readR s).1,bl (readR s).2]∧t=[]):=by
 refine ACalls.of_awp (n:=41) (rs:=[.cell 2 83,.tmp 3]) Tryz.func71 rfl Tryz.ntmps71 rfl ?_
 refine AWP.seqk fun K1 hK1=>?_
 refine AWP.region ?_
 simp only[go_sem]
 refine hK1 _ ?_;clear hK1 K1
 refine AWP.seqk fun K2 hK2=>?_
 refine AWP.region ?_
 simp only[go_sem]
 repeat'((refine ACall.of (sCut_c _ 61 (by omega)) (by kernel_rfl) rfl ?_;rintro r t ⟨rfl,rfl⟩<;>rcases hc:cutB 61 s with _|⟨a,v⟩<;>simp only[hc]<;>simp only[go_sem]))
 all_goals(
  refine hK2 _ ?_;clear hK2 K2
  refine AWP.seqk fun K3 hK3=>?_
  refine AWP.seqk fun K4 hK4=>?_
  refine AWP.region ?_
  simp only[go_sem]
  refine hK4 _ ?_;clear hK4 K4
  refine AWP.cond rfl (fun c17=>?_) (fun c17=>?_)
  ·first|exact Bool.noConfusion c17|(
    try simp only[dD] at c17
    refine AWP.seqk fun K5 hK5=>?_
    refine AWP.region ?_
    simp only[go_sem]
    refine hK5 _ ?_;clear hK5 K5
    refine AWP.ret ?_
    try simp only[go_sem]
    clear hK3 K3
    (exact⟨[],.tup [.agg [.v _,.v _],.v _],rfl,⟨⟨rfl,rfl,trivial⟩,rfl,trivial⟩,by rw[readR_none hc],rfl⟩))
  ·first|exact Bool.noConfusion c17|(
    try simp only[dD] at c17
    refine AWP.skip ?_
    refine hK3 _ ?_;clear hK3 K3
    refine AWP.seqk fun K6 hK6=>?_
    refine AWP.region ?_
    simp only[go_sem]
    repeat'((refine ACall.one (nparse_c _) (by kernel_rfl) rfl ?_;simp only[go_sem]))
    refine hK6 _ ?_;clear hK6 K6
    refine AWP.seqk fun K7 hK7=>?_
    refine AWP.seqk fun K8 hK8=>?_
    refine AWP.region ?_
    simp only[go_sem]
    repeat'(first|(refine AGuard.splitN (fun h=>?_) (fun h=>?_)<;>simp only[h,go_sem]<;>try simp only[dD] at h)|(refine AGuard.split (fun h=>?_) (fun h=>?_)<;>simp only[h,go_sem]<;>try simp only[dD] at h))
    all_goals(
     refine hK8 _ ?_;clear hK8 K8
     refine AWP.cond rfl (fun c33=>?_) (fun c33=>?_)
     ·(
       try simp only[dD] at c33
       refine AWP.seqk fun K9 hK9=>?_
       refine AWP.region ?_
       simp only[go_sem]
       refine hK9 _ ?_;clear hK9 K9
       refine AWP.ret ?_
       try simp only[go_sem]
       clear hK7 K7
       (exact⟨[],.tup [.agg [.v _,.v _],.v _],rfl,⟨⟨rfl,rfl,trivial⟩,rfl,trivial⟩,by rw[readR_bad hc (by omega)],rfl⟩))
     ·first|exact Bool.noConfusion c33|(
       try simp only[dD] at c33
       refine AWP.skip ?_
       refine hK7 _ ?_;clear hK7 K7
       refine AWP.seqk fun K10 hK10=>?_
       refine AWP.region ?_
       simp only[go_sem]
       refine hK10 _ ?_;clear hK10 K10
       refine AWP.seqk fun K11 hK11=>?_
       refine AWP.regionO [0,1,2,3,4] [] (by kernel_rfl) (by kernel_rfl) rfl ?_
       simp only[go_sem]
       repeat'((refine ACall.one (fright_c (_,_)) (by kernel_rfl) rfl ?_;simp only[go_sem]))
       refine hK11 _ ?_;clear hK11 K11
       refine AWP.ret ?_
       try simp only[go_sem]
       (exact⟨[],.tup [.agg [.v _,.v _],.v _],rfl,⟨⟨rfl,rfl,trivial⟩,rfl,trivial⟩,by rw[readR_at hc (by omega)],rfl⟩)))))
theorem fparse_c(b:Bs):ACalls E 34 [bytesV b] (fun r t=>r= .tup [.sl (some 0) 2 ((parseL b).1.map fldV),i64 (parseL b).2]∧t=[(parseL b).1.length]):=by
 refine ACalls.of_awp (n:=40) (rs:=[.tmp 2,.tmp 3]) Tryz.func34 rfl Tryz.ntmps34 rfl ?_
 refine AWP.seqk fun K1 hK1=>?_
 refine AWP.region ?_
 simp only[go_sem]
 refine hK1 _ ?_;clear hK1 K1
 refine AWP.seqk fun K2 hK2=>?_
 refine AWP.seqk fun K3 hK3=>?_
 refine AWP.region ?_
 simp only[go_sem]
 repeat'(((with_reducible refine And.intro ?_ ?_);(focus(((simp;done))));(try simp only[hb,go_sem])))
 refine hK3 _ ?_;clear hK3 K3
 refine AWP.cond rfl (fun c10=>?_) (fun c10=>?_)
 ·(
   try simp only[dD] at c10
   refine AWP.seqk fun K4 hK4=>?_
   refine AWP.region ?_
   simp only[go_sem]
   refine hK4 _ ?_;clear hK4 K4
   refine AWP.ret ?_
   try simp only[go_sem]
   clear hK2 K2
   (exact⟨[(false,2)],.tup [.sl (some 0) 2 [],.v _],rfl,⟨rfl,rfl,trivial⟩,by rw[pl_long (by omega)];rfl,by rw[pl_long (by omega)];rfl⟩))
 ·(
   try simp only[dD] at c10
   refine AWP.skip ?_
   refine hK2 _ ?_;clear hK2 K2
   refine AWP.seqk fun K5 hK5=>?_
   refine AWP.region ?_
   simp only[go_sem]
   refine hK5 _ ?_;clear hK5 K5
   refine AWP.seqk fun K6 hK6=>?_
   refine AWP.block ?_
   refine AWP.nilTok 4 2 rfl ?_
   simp only[go_sem]
   refine AWP.loopO (ι:=List Fld.Fd×Bs) [2,3,5,6,7,11,12,13,14,15,16,17,18,19,20,21,22,23,24,25,26,27,28,29,30,31,32,33,34,35,36,37,38] (fun⟨acc,rest⟩=>[(0,bytesV rest),(4,.sl (some 0) 2 (acc.map fldV))]) (fun⟨acc,rest⟩=>[]) (fun⟨acc,rest⟩=>[acc.length]) (fun⟨acc,rest⟩=>parseGo [] b=parseGo acc rest∧acc.length≤100∧rest.length≤65536) (fun⟨acc,rest⟩=>rest.length) (([],b)) ?_ ?_ ?_
   ·(try simp only[go_sem]);try(simp;done)
   ·exact⟨rfl,by simp,by omega⟩
   rintro⟨acc,rest⟩ ⟨h1,h2,h3⟩
   simp only[go_sem]
   refine AWP.seqk fun K7 hK7=>?_
   refine AWP.seqk fun K8 hK8=>?_
   refine AWP.region ?_
   simp only[go_sem]
   repeat'(((with_reducible refine And.intro ?_ ?_);(focus(((simp;done))));(try simp only[hb,go_sem])))
   refine hK8 _ ?_;clear hK8 K8
   refine AWP.cond rfl (fun c13=>?_) (fun c13=>?_)
   ·(
     try simp only[dD] at c13
     refine AWP.skip ?_
     refine hK7 _ ?_;clear hK7 K7
     refine AWP.block ?_
     refine AWP.seqk fun K9 hK9=>?_
     refine AWP.region ?_
     simp only[go_sem]
     repeat'((refine ACall.one (bIndex_c _ 1) (by kernel_rfl) rfl ?_;simp only[go_sem]))
     have hi:=index_cut (c:=1) (l:=rest)
     rcases hc:cutB 1 rest with _|⟨a,v⟩<;>(try simp only[hc] at hi)<;>(try simp only[hi])
     all_goals(
      refine hK9 _ ?_;clear hK9 K9
      refine AWP.seqk fun K10 hK10=>?_
      refine AWP.seqk fun K11 hK11=>?_
      refine AWP.region ?_
      simp only[go_sem]
      refine hK11 _ ?_;clear hK11 K11
      refine AWP.cond rfl (fun c17=>?_) (fun c17=>?_)
      ·first|exact Bool.noConfusion c17|(
        try simp only[dD] at c17
        refine AWP.seqk fun K12 hK12=>?_
        refine AWP.region ?_
        simp only[go_sem]
        refine hK12 _ ?_;clear hK12 K12
        refine AWP.ret ?_
        try simp only[go_sem]
        clear hK10 K10 hK6 K6
        (exact⟨[(false,2)],.tup [.sl (some 0) 2 [],.v _],rfl,⟨rfl,rfl,trivial⟩,by rw[pl_short (by omega) h1 (by omega) hc];rfl,by rw[pl_short (by omega) h1 (by omega) hc];rfl⟩))
      ·first|exact Bool.noConfusion c17|(
        try simp only[dD] at c17
        refine AWP.skip ?_
        refine hK10 _ ?_;clear hK10 K10
        refine AWP.seqk fun K13 hK13=>?_
        obtain⟨ht,hd,hn⟩:=cut_take hc
        refine AWP.region ?_
        simp only[go_sem]
        repeat'(first|(refine ACall.one (fread_c _ (by simp only[List.length_take];omega)) (by kernel_rfl) rfl ?_;simp only[go_sem])|((with_reducible refine And.intro ?_ ?_);(focus((omega)));(try simp only[hb,go_sem])))
        refine hK13 _ ?_;clear hK13 K13
        refine AWP.seqk fun K14 hK14=>?_
        refine AWP.seqk fun K15 hK15=>?_
        refine AWP.region ?_
        simp only[go_sem]
        refine hK15 _ ?_;clear hK15 K15
        refine AWP.cond rfl (fun c27=>?_) (fun c27=>?_)
        ·(
          try simp only[dD] at c27
          refine AWP.seqk fun K16 hK16=>?_
          refine AWP.region ?_
          simp only[go_sem]
          refine hK16 _ ?_;clear hK16 K16
          refine AWP.ret ?_
          try simp only[go_sem]
          clear hK14 K14 hK6 K6
          (exact⟨[(false,2)],.tup [.sl (some 0) 2 [],.v _],rfl,⟨rfl,rfl,trivial⟩,by rw[pl_form (by omega) h1 hc (readF_no (by rw[ht] at c27;exact c27))];rfl,by rw[pl_form (by omega) h1 hc (readF_no (by rw[ht] at c27;exact c27))];rfl⟩))
        ·(
          try simp only[dD] at c27
          refine AWP.skip ?_
          refine hK14 _ ?_;clear hK14 K14
          refine AWP.seqk fun K17 hK17=>?_
          refine AWP.seqk fun K18 hK18=>?_
          refine AWP.region ?_
          simp only[go_sem]
          repeat'(((with_reducible refine And.intro ?_ ?_);(focus(((simp;done))));(try simp only[hb,go_sem])))
          refine hK18 _ ?_;clear hK18 K18
          refine AWP.cond rfl (fun c30=>?_) (fun c30=>?_)
          ·(
            try simp only[dD] at c30
            refine AWP.seqk fun K19 hK19=>?_
            refine AWP.region ?_
            simp only[go_sem]
            refine hK19 _ ?_;clear hK19 K19
            refine AWP.ret ?_
            try simp only[go_sem]
            clear hK17 K17 hK6 K6
            (exact⟨[(false,2)],.tup [.sl (some 0) 2 [],.v _],rfl,⟨rfl,rfl,trivial⟩,by rw[pl_many (by omega) h1 hc (readF_yes (by rw[ht] at c27;exact c27)) (by omega)];rfl,by rw[pl_many (by omega) h1 hc (readF_yes (by rw[ht] at c27;exact c27)) (by omega)];rfl⟩))
          ·(
            try simp only[dD] at c30
            refine AWP.skip ?_
            refine hK17 _ ?_;clear hK17 K17
            refine AWP.seqk fun K20 hK20=>?_
            refine AWP.region ?_
            simp only[go_sem]
            repeat'(((with_reducible refine And.intro ?_ ?_);(focus((omega)));(try simp only[hb,go_sem])))
            refine hK20 _ ?_;clear hK20 K20
            refine AWP.region ?_
            simp only[go_sem]
            repeat'(((with_reducible refine And.intro ?_ ?_);(focus((first|omega|(rw[wrap64_id (by omega) (by omega)];omega))));(try simp only[hb,go_sem])))
            clear hK6 K6
            refine⟨(acc++[(readR a).1],v),?_,?_,?_⟩
            ·rw[wrap64_id (by omega) (by omega),ht]
             refine⟨⟨.inr ?_,.inr ?_⟩,?_⟩
             ·show bytesV v=_;rw[show((a.length:Int)+1).toNat=a.length+1 from by omega,hd]
             ·simp
             ·simp
            ·exact⟨pl_step h1 hc (readF_yes (by rw[ht] at c27;exact c27)) (by omega),by simp;omega,(show v.length≤65536 by omega)⟩
            ·show v.length<rest.length;omega)))))
   ·(
     try simp only[dD] at c13
     refine AWP.exit ?_
     simp only[go_sem]
     clear hK7 K7
     refine hK6 _ ?_;clear hK6 K6
     refine AWP.seqk fun K21 hK21=>?_
     refine AWP.region ?_
     simp only[go_sem]
     refine hK21 _ ?_;clear hK21 K21
     refine AWP.ret ?_
     try simp only[go_sem]
     (exact⟨[(true,0)],.tup [.sl (some 0) 2 _,.v _],rfl,⟨⟨rfl,rfl,rfl⟩,rfl,trivial⟩,by rw[Go.Fld.pl_end (by omega) h1 (by omega)],by rw[Go.Fld.pl_end (by omega) h1 (by omega)];rfl⟩)))
theorem fget_c(l:List Fld.Fd)(tag:Int)(hl:l.length≤9223372036854775807):ACalls E 73 [fldsV l,i64 tag] (fun r t=>r= .tup [str (getF l tag).1,bl (getF l tag).2]∧t=[]):=by
 refine ACalls.of_awp (n:=21) (rs:=[.tmp 4,.tmp 5]) Tryz.func73 rfl Tryz.ntmps73 rfl ?_
 refine AWP.seqk fun K1 hK1=>?_
 refine AWP.region ?_
 simp only[go_sem]
 refine hK1 _ ?_;clear hK1 K1
 refine AWP.seqk fun K2 hK2=>?_
 refine AWP.seqk fun K3 hK3=>?_
 refine AWP.region ?_
 simp only[go_sem]
 repeat'(((with_reducible refine And.intro ?_ ?_);(focus(((simp;done))));(try simp only[hb,go_sem])))
 refine hK3 _ ?_;clear hK3 K3
 refine AWP.block ?_
 refine AWP.loopH (ι:=Nat) [4,5,7,11,12,13,14,15,16,17,18,19,20] (fun(i:Nat)=>[(10,i64 i)]) (fun(i:Nat)=>i≤l.length∧getF l tag=getF (l.drop i) tag) (fun(i:Nat)=>l.length-i) (0) ?_ ?_ ?_
 ·(try simp only[go_sem]);try(simp;done)
 ·exact⟨by omega,rfl⟩
 rintro i ⟨h1,h2⟩
 simp only[go_sem]
 refine AWP.seqk fun K4 hK4=>?_
 refine AWP.region ?_
 simp only[go_sem]
 refine hK4 _ ?_;clear hK4 K4
 refine AWP.seqk fun K5 hK5=>?_
 refine AWP.cond rfl (fun c11=>?_) (fun c11=>?_)
 ·(
   try simp only[dD] at c11
   refine AWP.skip ?_
   refine hK5 _ ?_;clear hK5 K5
   refine AWP.seqk fun K6 hK6=>?_
   refine AWP.block ?_
   refine AWP.seqk fun K7 hK7=>?_
   refine AWP.region ?_
   simp only[go_sem]
   repeat'(((refine AGet.nth ?_ (fun b hb=>?_));(focus((omega)));(try simp only[hb,go_sem])))
   refine hK7 _ ?_;clear hK7 K7
   refine AWP.seqk fun K8 hK8=>?_
   refine AWP.region ?_
   simp only[go_sem]
   refine hK8 _ ?_;clear hK8 K8
   refine AWP.cond rfl (fun c17=>?_) (fun c17=>?_)
   ·(
     try simp only[dD] at c17
     refine AWP.seqk fun K9 hK9=>?_
     refine AWP.region ?_
     simp only[go_sem]
     refine hK9 _ ?_;clear hK9 K9
     refine AWP.ret ?_
     try simp only[go_sem]
     clear hK6 K6 hK2 K2
     (exact⟨[],.tup [.v _,.v _],rfl,⟨rfl,rfl,trivial⟩,by rw[get_hit h2 hb c17],rfl⟩))
   ·(
     try simp only[dD] at c17
     refine AWP.skip ?_
     refine hK6 _ ?_;clear hK6 K6
     refine AWP.region ?_
     simp only[go_sem]
     clear hK2 K2
     refine⟨i+1,?_,?_,?_⟩
     ·(try simp only[go_sem]);(try rw[wrap64_id (by omega) (by omega)]);simp
     ·exact⟨by omega,get_miss h2 hb (by assumption)⟩
     ·omega))
 ·(
   try simp only[dD] at c11
   refine AWP.exit ?_
   simp only[go_sem]
   clear hK5 K5
   refine hK2 _ ?_;clear hK2 K2
   refine AWP.seqk fun K10 hK10=>?_
   refine AWP.region ?_
   simp only[go_sem]
   refine hK10 _ ?_;clear hK10 K10
   refine AWP.ret ?_
   try simp only[go_sem]
   (exact⟨[],.tup [.v _,.v _],rfl,⟨rfl,rfl,trivial⟩,by rw[get_end h2 c11],rfl⟩))
theorem fnum_c(l:List Fld.Fd)(tag:Int)(hl:l.length≤9223372036854775807):ACalls E 75 [fldsV l,i64 tag] (fun r t=>r= .tup [i64 (numF l tag).1,bl (numF l tag).2]∧t=[]):=by
 refine ACalls.of_awp (n:=26) (rs:=[.tmp 4,.tmp 5]) Tryz.func75 rfl Tryz.ntmps75 rfl ?_
 refine AWP.seqk fun K1 hK1=>?_
 refine AWP.region ?_
 simp only[go_sem]
 refine hK1 _ ?_;clear hK1 K1
 refine AWP.seqk fun K2 hK2=>?_
 refine AWP.region ?_
 simp only[go_sem]
 repeat'((refine ACall.one (fget_c _ _ (by omega)) (by kernel_rfl) rfl ?_;simp only[go_sem]))
 refine hK2 _ ?_;clear hK2 K2
 refine AWP.seqk fun K3 hK3=>?_
 refine AWP.seqk fun K4 hK4=>?_
 refine AWP.region ?_
 simp only[go_sem]
 refine hK4 _ ?_;clear hK4 K4
 refine AWP.cond rfl (fun c17=>?_) (fun c17=>?_)
 ·(
   try simp only[dD] at c17
   refine AWP.seqk fun K5 hK5=>?_
   refine AWP.region ?_
   simp only[go_sem]
   refine hK5 _ ?_;clear hK5 K5
   refine AWP.ret ?_
   try simp only[go_sem]
   clear hK3 K3
   (exact⟨[],.tup [.v _,.v _],rfl,⟨rfl,rfl,trivial⟩,by unfold numF;rw[if_neg (by rw[(by assumption:(getF l tag).2=false)];simp)],rfl⟩))
 ·(
   try simp only[dD] at c17
   refine AWP.skip ?_
   refine hK3 _ ?_;clear hK3 K3
   refine AWP.seqk fun K6 hK6=>?_
   refine AWP.region ?_
   simp only[go_sem]
   repeat'((refine ACall.one (nparse_c _) (by kernel_rfl) rfl ?_;simp only[go_sem]))
   refine hK6 _ ?_;clear hK6 K6
   refine AWP.seqk fun K7 hK7=>?_
   refine AWP.seqk fun K8 hK8=>?_
   refine AWP.region ?_
   simp only[go_sem]
   refine hK8 _ ?_;clear hK8 K8
   refine AWP.cond rfl (fun c24=>?_) (fun c24=>?_)
   ·(
     try simp only[dD] at c24
     refine AWP.seqk fun K9 hK9=>?_
     refine AWP.region ?_
     simp only[go_sem]
     refine hK9 _ ?_;clear hK9 K9
     refine AWP.ret ?_
     try simp only[go_sem]
     clear hK7 K7
     (exact⟨[],.tup [.v _,.v _],rfl,⟨rfl,rfl,trivial⟩,by unfold numF;rw[if_pos c17,if_neg c24],rfl⟩))
   ·(
     try simp only[dD] at c24
     refine AWP.skip ?_
     refine hK7 _ ?_;clear hK7 K7
     refine AWP.seqk fun K10 hK10=>?_
     refine AWP.region ?_
     simp only[go_sem]
     refine hK10 _ ?_;clear hK10 K10
     refine AWP.ret ?_
     try simp only[go_sem]
     (exact⟨[],.tup [.v _,.v _],rfl,⟨rfl,rfl,trivial⟩,by unfold numF;rw[if_pos c17,if_pos c24],rfl⟩)))
end Go.Proofs.YthoonfpkfdjhiaaGreatDoor
end
section
namespace Go.Proofs.YthoonfpkfdjhiaaGreatDoor
open Go Go.Abs Go.RowKit Go.Bk Go.Msg
theorem r5text_c(s:List UInt8)(hs:s.length≤9223372036854775807):ACalls E 122 [str s] (fun r t=>r=bl (textR s)∧t=[]):=by
 refine ACalls.of_awp (n:=17) (rs:=[.tmp 2]) Tryz.func122 rfl Tryz.ntmps122 rfl ?_
 repeat'(first
 |refine AWP.seqk fun K hK=>?_
 |(refine AWP.region ?_;simp only[go_sem])
 |(refine hK _ ?_;clear hK K)
 |refine AWP.block ?_
 |refine AWP.cond rfl (fun c=>?_) (fun c=>?_)<;>(try simp only[dD] at c)
 |refine AWP.skip ?_
 |(refine AWP.exit ?_;simp only[go_sem])
 |((refine AGet.nth1 ?_ (fun b hb=>?_));(focus(omega));(try simp only[hb,go_sem]))
 |(
  refine AWP.here 2 4 4 rfl ?_
  refine AWP.loopN (ι:=Nat) [2,4,5,6,7,8,9,10,11,12,13] (fun(i:Nat)=>[(3,i64 i)]) (fun(i:Nat)=>i≤s.length∧(1:UInt8)∉s.take i) (fun(i:Nat)=>s.length-i) (0) ?_ ?_ ?_
  ·(try simp only[go_sem]);(repeat'(first|fail));done
  ·exact⟨by omega,by simp⟩
  rintro i ⟨h1,h2⟩
  simp only[go_sem])
 |(
  refine⟨i+1,?_,?_,?_⟩
  ·(try simp only[go_sem]);(try rw[wrap64_id (by omega) (by omega)]);(repeat'(exact .inr rfl));done
  ·exact⟨by omega,Go.Fld.nmem_next hb h2 (Go.Fld.u8_ne (by assumption) rfl)⟩
  ·(try simp only[]);omega)
 |(
  refine AWP.ret ?_
  refine AEnd.is ?_;simp only[go_sem,out_v,out_s,out_n,v_int,v_bool,v_str]<;>(first
  |(unfold textR;rw[decide_eq_false (p:=(1:UInt8)∉s) (fun h=>h (Go.Fld.mem_at hb (by assumption) rfl))];rfl)
  |(rw[List.take_of_length_le (by omega)] at h2;unfold textR;rw[decide_eq_true (p:=(1:UInt8)∉s) h2,Bool.true_and];(rw[Bool.eq_iff_iff];simp;omega))))
 |refine AWP.fin (by assumption) ?_)
theorem r5num_c(tag n:Int):ACalls E 68 [i64 tag,i64 n] (fun r t=>r=fldV (tag,Fld.showF n)∧t=[]):=by
 refine ACalls.of_awp (n:=9) (rs:=[.cell 4 83]) Tryz.func68 rfl Tryz.ntmps68 rfl ?_
 repeat'(first
 |refine AWP.seqk fun K hK=>?_
 |(refine AWP.region ?_;simp only[go_sem])
 |(refine hK _ ?_;clear hK K)
 |(refine ACall.one (r1show_c n) (by kernel_rfl) rfl ?_;simp only[go_sem])
 |(
  refine AWP.ret ?_
  refine AEnd.is ?_;simp only[go_sem,out_v,out_s,out_n,v_int,v_bool,v_str]<;>(simp[])))
theorem index_range(c:UInt8):∀l:List UInt8,-1≤Lib.indexByte l c∧Lib.indexByte l c<l.length:=by
 intro l
 induction l with
 |nil=>unfold Lib.indexByte;exact⟨by simp,by simp⟩
 |cons b l ih=>
  unfold Lib.indexByte
  simp only[List.length_cons]
  split
  ·omega
  ·split<;>omega
theorem kind_at{s:List UInt8}{b:UInt8}(h:(s.length:Int)=1)(hb:s[0]?=some b):IntKind.i64.wrap (Lib.indexByte letters b+1)=kindF s:=by
 match s,h with
 |[c],_=>
  simp at hb;subst hb
  have:=index_range c letters
  have h7:letters.length=7:=rfl
  rw[wrap64_id (by omega) (by omega)];rfl
 |[],h=>simp at h
 |_::_::_,h=>simp at h;omega
theorem kind_no{s:List UInt8}(h:¬(s.length:Int)=1):kindF s=0:=by
 match s,h with
 |[_],h=>exact absurd rfl h
 |[],h=>rfl
 |_::_::_,h=>rfl
theorem mfind_c(l:List Fld.Fd)(hl:l.length≤1000):ACalls E 165 [fldsV l] (fun r t=>r=mgV (findM l)∧t=[]):=by
 refine ACalls.of_awp (n:=83) (rs:=[.cell 2 78]) Tryz.func165 rfl Tryz.ntmps165 rfl ?_
 repeat'(first
 |refine AWP.seqk fun K hK=>?_
 |(refine ACall.one (sIndex_c letters b) (by kernel_rfl) rfl ?_;simp only[go_sem])
 |(refine ACall.one (fget_c l _ (by omega)) (by kernel_rfl) rfl ?_;simp only[go_sem])
 |(refine ACall.one (fnum_c l _ (by omega)) (by kernel_rfl) rfl ?_;simp only[go_sem])
 |(refine AWPL.call (rs:=[.tmp 3]) Tryz.func201 rfl Tryz.ntmps201 rfl (by kernel_rfl) rfl rfl ?_;simp only[go_sem])
 |(refine AWPL.call (rs:=[.tmp 3]) Tryz.func202 rfl Tryz.ntmps202 rfl (by kernel_rfl) rfl rfl ?_;simp only[go_sem])
 |(refine AWP.here 3 9 10 rfl ?_;refine AWP.regionL ?_;refine AWPL.at 10 1 rfl ?_;simp only[go_sem])
 |(refine AWPL.at 8 1 rfl ?_;simp only[go_sem])
 |(refine AWPL.at 6 1 rfl ?_;simp only[go_sem])
 |(refine AWP.here 4 17 3 rfl ?_;refine AWP.regionL ?_;refine AWPL.at 3 1 rfl ?_;simp only[go_sem])
 |(refine AWP.here 9 31 4 rfl ?_;refine AWP.regionL ?_;refine AWPL.at 4 1 rfl ?_;simp only[go_sem])
 |(refine AWP.here 12 37 4 rfl ?_;refine AWP.regionL ?_;refine AWPL.at 4 1 rfl ?_;simp only[go_sem])
 |(refine AWP.here 14 42 8 rfl ?_;refine AWP.regionL ?_;refine AWPL.at 8 1 rfl ?_;simp only[go_sem])
 |(refine AWP.here 16 50 9 rfl ?_;refine AWP.regionL ?_;refine AWPL.at 9 1 rfl ?_;simp only[go_sem])
 |(refine AWPL.at 7 1 rfl ?_;simp only[go_sem])
 |(refine AWP.here 18 59 24 rfl ?_;refine AWP.regionL ?_;refine AWPL.at 24 1 rfl ?_;simp only[go_sem])
 |(refine AWPL.at 22 1 rfl ?_;simp only[go_sem])
 |(refine AWPL.at 20 1 rfl ?_;simp only[go_sem])
 |(refine AWPL.at 18 1 rfl ?_;simp only[go_sem])
 |(refine AWPL.at 16 1 rfl ?_;simp only[go_sem])
 |(refine AWPL.at 14 1 rfl ?_;simp only[go_sem])
 |(refine AWPL.at 12 2 rfl ?_;simp only[go_sem])
 |(refine AWPL.at 9 1 rfl ?_;simp only[go_sem])
 |(refine AWPL.at 5 1 rfl ?_;simp only[go_sem])
 |(refine AWP.region ?_;simp only[go_sem])
 |(refine hK _ ?_;clear hK K)
 |refine AWP.block ?_
 |refine AWP.cond rfl (fun c=>?_) (fun c=>?_)<;>first|exact Bool.noConfusion c|(try simp only[dD] at c)
 |refine AWP.skip ?_
 |((refine AGet.nth1 ?_ (fun b hb=>?_));(focus(omega));(try simp only[hb,go_sem]))
 |(
  refine AWP.ret ?_
  refine AEnd.is ?_;simp only[go_sem,bytesV,out_v,out_s,out_n,v_int,v_bool,v_str]<;>(try((first|(exfalso;omega)|((try clear hK);simp only[kind_at (s:=(Fld.getF l 35).1) (by assumption) hb] at *;(simp_all[findM,tx,nm,findX,zeroX]<;>first|rfl|exact⟨decide_eq_decide.2 Iff.rfl,decide_eq_decide.2 Iff.rfl⟩);done)|((try clear hK);have hkf:=kind_no (s:=(Fld.getF l 35).1) (by assumption);(simp_all[findM,tx,nm,findX,zeroX]<;>(rfl));done)))))
 |(refine AWP.ret ?_;refine AInPost.ret rfl ?_;simp only[go_sem])
 |(refine AWPL.of ?_;simp only[go_sem]))
theorem mread_c(bs:List UInt8):ACalls E 126 [bytesV bs] (fun r t=>r= .tup [mgV (readM bs).1,i64 (readM bs).2]∧t=[]):=by
 refine ACalls.of_awp (n:=34) (rs:=[.cell 2 78,.tmp 3]) Tryz.func126 rfl Tryz.ntmps126 rfl ?_
 repeat'(first
 |refine AWP.seqk fun K hK=>?_
 |(refine AWP.region ?_;simp only[go_sem])
 |(refine hK _ ?_;clear hK K)
 |refine AWP.cond rfl (fun c=>?_) (fun c=>?_)<;>first|exact Bool.noConfusion c|(try simp only[dD] at c)
 |refine AWP.skip ?_
 |(refine ACall.of (fparse_c _) (by kernel_rfl) rfl ?_;rintro r t ⟨rfl,rfl⟩;simp only[go_sem])
 |(refine ACall.one (mfind_c (Fld.parseL bs).1 (by have:=Fld.parseL_len bs;omega)) (by kernel_rfl) rfl ?_;simp only[go_sem])
 |(refine ACall.one (mput_c (findM (Fld.parseL bs).1)) (by kernel_rfl) rfl ?_;simp only[go_sem])
 |(refine ACall.one (bequal_c _ _) (by kernel_rfl) rfl ?_;simp only[go_sem])
 |(refine AGuard.split (fun h=>?_) (fun h=>?_)<;>simp only[h,go_sem]<;>(try simp only[dD] at h))
 |(
  refine AWP.ret ?_
  refine AEnd.is ?_;simp only[go_sem,bytesV,out_v,out_s,out_n,v_int,v_bool,v_str]<;>(try((((try clear hK);simp_all[readM,zeroM,zeroX];done))))))
end Go.Proofs.YthoonfpkfdjhiaaGreatDoor
end
section
namespace Go.Txt
open Go.Fld Go.Msg
theorem get_le{n:Nat}:∀{l:List Fld.Fd} {t:Int},(∀f∈l,f.2.length≤n)→(getF l t).1.length≤n
 |[],_,_=>Nat.zero_le _
 |f::l,t,h=>by
  rw[getF]
  split
  ·exact h f (by simp)
  ·exact get_le fun g hg=>h g (by simp[hg])
theorem enc_mem:∀{l:List Fld.Fd} {f:Fld.Fd},f∈l→f.2.length≤(encL l).length
 |[],_,h=>by simp at h
 |g::l,f,h=>by
  rw[encL,List.length_append]
  rcases List.mem_cons.1 h with rfl|h
  ·rw[encF];simp;omega
  ·have:=enc_mem h;omega
theorem parse_bd{x:List UInt8}(hx:x.length≤4200):(parseL x).1.length≤100000∧(tx (parseL x).1 9).length≤5000:=by
 refine⟨by have:=parseL_len x;omega,?_⟩
 by_cases h:(parseL x).2=0
 ·have e:parseL x=parseGo [] x:=by unfold parseL;rw[if_neg (by omega)]
  have e2:parseGo [] x=((parseL x).1,0):=by rw[←e];exact Prod.ext rfl h
  obtain⟨l,h1,h2,_,_⟩:=parse_inv x.length x [] _ (Nat.le_refl _) (by simp) e2
  rw[List.nil_append] at h1
  have:=get_le (l:=(parseL x).1) (t:=9) (n:=x.length) fun f hf=>by rw[h2];rw[h1] at hf;exact enc_mem hf
  unfold tx;omega
 ·unfold tx;rw[Fld.parse_err h];exact Nat.zero_le _
end Go.Txt
end
section
namespace Go.Proofs.YthoonfpkfdjhiaaGreatDoor
open Go Go.Abs Go.RowKit Go.Bk Go.Msg Go.Txt
theorem execK_no{s:List UInt8}(h:¬(readM (s.map turn21)).2=0):execK s=zeroX:=by unfold execK;rw[if_neg h]
theorem execK_ok{s:List UInt8}(h:(readM (s.map turn21)).2=0):execK s=(readM (s.map turn21)).1.exec:=by unfold execK;rw[if_pos h]
theorem ask_k1{l:List Fld.Fd}(h:nm l 1=1):askedK l=⟨1,nm l 2,⟨tx l 3,tx l 4,tx l 5,decide (tx l 6=[49]),nm l 7,nm l 8,0,false⟩,[],zeroX,0,false,Txt.zeroL⟩:=by rw[asked_of h];simp[venueK]
theorem ask_k2{l:List Fld.Fd}(h:nm l 1=2):askedK l=⟨2,nm l 2,⟨tx l 4,[],[],false,nm l 7,nm l 8,0,false⟩,tx l 3,zeroX,0,false,Txt.zeroL⟩:=by rw[asked_of h];simp[venueK]
theorem ask_k3{l:List Fld.Fd}(h:nm l 1=3):askedK l=⟨3,nm l 2,Txt.zeroO,[],execK (tx l 9),0,false,Txt.zeroL⟩:=by rw[asked_of h];simp[venueK]
theorem ask_k4{l:List Fld.Fd}(h:nm l 1=4):askedK l=⟨4,0,Txt.zeroO,[],zeroX,nm l 10,false,Txt.zeroL⟩:=by rw[asked_of h];simp[venueK]
theorem ask_k5{l:List Fld.Fd}(h:nm l 1=5):askedK l=⟨5,0,Txt.zeroO,[],zeroX,0,decide (tx l 11=[49]),Txt.zeroL⟩:=by rw[asked_of h];simp[venueK]
theorem ask_k6{l:List Fld.Fd}(h:nm l 1=6):askedK l=⟨6,nm l 2,Txt.zeroO,[],zeroX,0,decide (tx l 11=[49]),Txt.zeroL⟩:=by rw[asked_of h];simp[venueK]
theorem ask_k7{l:List Fld.Fd}(h:nm l 1=7):askedK l=⟨7,nm l 2,Txt.zeroO,[],zeroX,0,false,Txt.zeroL⟩:=by rw[asked_of h];simp[venueK]
theorem ask_k8{l:List Fld.Fd}(h:nm l 1=8):askedK l=⟨8,0,Txt.zeroO,[],zeroX,0,false,⟨tx l 4,tx l 5,nm l 12,nm l 13,nm l 7,nm l 8⟩⟩:=by rw[asked_of h];simp[venueK]
theorem ask_k0{l:List Fld.Fd}(h:¬nm l 1=1∧¬nm l 1=2∧¬nm l 1=3∧¬nm l 1=4∧¬nm l 1=5∧¬nm l 1=6∧¬nm l 1=7∧¬nm l 1=8):askedK l=⟨nm l 1,0,Txt.zeroO,[],zeroX,0,false,Txt.zeroL⟩:=by
 obtain⟨h1,h2,h3,h4,h5,h6,h7,h8⟩:=h
 rw[asked_of rfl];simp[venueK,h1,h2,h3,h4,h5,h6,h7,h8]
theorem readK_1{x:List UInt8}(h:¬(Fld.parseL x).2=0):readK x=(zeroA,3):=by unfold readK;rw[if_neg h]
theorem readK_2{x:List UInt8}(h:(Fld.parseL x).2=0)(h2:¬(putK (askedK (Fld.parseL x).1)).2=0∨¬(putK (askedK (Fld.parseL x).1)).1=x):readK x=(zeroA,3):=by
 unfold readK;rw[if_pos h,if_neg]
 intro e
 rw[e] at h2
 rcases h2 with h2|h2<;>exact h2 rfl
theorem readK_3{x:List UInt8}(h:(Fld.parseL x).2=0)(h2:(putK (askedK (Fld.parseL x).1)).2=0)(h3:(putK (askedK (Fld.parseL x).1)).1=x):readK x=(askedK (Fld.parseL x).1,0):=by
 unfold readK;rw[if_pos h,if_pos (Prod.ext h3 h2)]
theorem ktext_c(l:List Fld.Fd)(tag:Int)(hl:l.length≤100000):ACalls E 72 [i64 tag,.rptr [fldsV l]] (fun r t=>r=str (tx l tag)∧t=[]):=by
 refine ACalls.of_awp (n:=13) (rs:=[.tmp 3]) Tryz.func72 rfl Tryz.ntmps72 rfl ?_
 repeat'(first
 |refine AWP.seqk fun K hK=>?_
 |(refine AWP.region ?_;simp only[go_sem])
 |(refine hK _ ?_;clear hK K)
 |(refine ACall.one (fget_c l tag (by omega)) (by kernel_rfl) rfl ?_;simp only[go_sem])
 |(
  refine AWP.ret ?_
  refine AEnd.is ?_;simp only[go_sem,out_v,out_s,out_n,v_int,v_bool,v_str]<;>(rfl)))
theorem kcount_c(l:List Fld.Fd)(tag:Int)(hl:l.length≤100000):ACalls E 74 [i64 tag,.rptr [fldsV l]] (fun r t=>r=i64 (nm l tag)∧t=[]):=by
 refine ACalls.of_awp (n:=13) (rs:=[.tmp 3]) Tryz.func74 rfl Tryz.ntmps74 rfl ?_
 repeat'(first
 |refine AWP.seqk fun K hK=>?_
 |(refine AWP.region ?_;simp only[go_sem])
 |(refine hK _ ?_;clear hK K)
 |(refine ACall.one (fnum_c l tag (by omega)) (by kernel_rfl) rfl ?_;simp only[go_sem])
 |(
  refine AWP.ret ?_
  refine AEnd.is ?_;simp only[go_sem,out_v,out_s,out_n,v_int,v_bool,v_str]<;>(rfl)))
theorem kexec_c(s:List UInt8)(hs:s.length≤5000):ACalls E 76 [str s] (fun r t=>r=exV (execK s)∧t=[]):=by
 refine ACalls.of_awp (n:=19) (rs:=[.cell 2 25]) Tryz.func76 rfl Tryz.ntmps76 rfl ?_
 repeat'(first
 |refine AWP.seqk fun K hK=>?_
 |(refine AWP.region ?_;simp only[go_sem])
 |(refine hK _ ?_;clear hK K)
 |refine AWP.cond rfl (fun c=>?_) (fun c=>?_)<;>(try simp only[dD] at c)
 |refine AWP.skip ?_
 |(refine ACall.one (repall21_c s hs) (by kernel_rfl) rfl ?_;simp only[go_sem])
 |(refine ACall.one (mread_c (s.map turn21)) (by kernel_rfl) rfl ?_;simp only[go_sem])
 |(
  refine AWP.ret ?_
  refine AEnd.is ?_;simp only[go_sem,out_v,out_s,out_n,v_int,v_bool,v_str]<;>(first|(rw[execK_no (by assumption)];exact⟨rfl,rfl,rfl,rfl,rfl,rfl,rfl,rfl,rfl,rfl⟩)|(rw[execK_ok (by assumption)];exact⟨rfl,rfl,rfl,rfl,rfl,rfl,rfl,rfl,rfl,rfl⟩))))
end Go.Proofs.YthoonfpkfdjhiaaGreatDoor
end
