/- Texts of one chain, put together (Z1, Z2, G7, G8, G9, X6b, N3b, N5b, N6, N8, M1b, M4, KpH, Y1, Y2, Y3, Z3, Z4, Z5, S1). -/
import Derived.Test.YthoonfpkfdjhiaaGreatDoorKcK
import Derived.Test.YthoonfpkfdjhiaaGreatDoorKcN
import Derived.Test.YthoonfpkfdjhiaaGreatDoorKcJ
import Derived.Test.YthoonfpkfdjhiaaGreatDoorKcH
import Derived.Test.YthoonfpkfdjhiaaGreatDoorKcG
import Derived.WalkKit
import Derived.Lib.BytesEntry
import Derived.Test.YthoonfpkfdjhiaaGreatDoorKcA
set_option linter.unusedVariables false
set_option linter.unusedSimpArgs false
set_option maxHeartbeats 16000000
set_option maxRecDepth 8000
section
namespace Go.Proofs.YthoonfpkfdjhiaaGreatDoor
open Go Go.az Go.RowKit Go.Bk Go.Txt
abbrev gx(n p:Int)(k:Kp.Ks Gt):AV:= .agg [i64 n,i64 p,aU k.jn.d.f0.safe,aU k.jn.d.f0.tail,aU k.jn.d.f1.safe,aU k.jn.d.f1.tail,i64 k.jn.at',i64 k.jn.gen,fa k.g.an,cp k.g.aZ,bl k.g.kill,i64 k.g.now,i64 k.g.pat]
abbrev jf:AV:= .agg [i64 0,i64 0,.aw,.aw,.aw,.aw,i64 0,i64 0,.aw,.aw,bl false,i64 0,i64 0]
theorem RP{n p:Int}{k:Kp.Ks Gt}{no nt:Nat}:∀e∈[gx n p k],∀z∈e.leaves,z.bw no nt=true:=by
 intro e he z hz
 simp only[List.mem_singleton] at he
 subst he
 simp only[AV.leaves,List.mem_cons,List.not_mem_nil,or_false] at hz
 rcases hz with rfl|rfl|rfl|rfl|rfl|rfl|rfl|rfl|rfl|rfl|rfl|rfl|rfl<;>rfl
theorem vm{n p:Int}{k:Kp.Ks Gt}{no nt:Nat}:some [gx n p k]=none∨∀es,some [gx n p k]=some es→∀e∈es,∀z∈e.leaves,z.bw no nt=true:= .inr fun es h=>by cases h;exact RP
theorem abS{no nt:Nat}:∀e∈[jf],∀z∈e.leaves,z.bw no nt=true:=by
 intro e he z hz
 simp only[List.mem_singleton] at he
 subst he
 simp only[AV.leaves,List.mem_cons,List.not_mem_nil,or_false] at hz
 rcases hz with rfl|rfl|rfl|rfl|rfl|rfl|rfl|rfl|rfl|rfl|rfl|rfl|rfl<;>rfl
theorem rI{no nt:Nat}:some [jf]=none∨∀es,some [jf]=some es→∀e∈es,∀z∈e.leaves,z.bw no nt=true:= .inr fun es h=>by cases h;exact abS
theorem RY{k:Kp.Ks Gt}(h:¬(Kp.ia k.jn).2=0):Kp.iY k=(k,(Kp.ia k.jn).2):=by unfold Kp.iY;rw[if_neg h]
theorem RZ{k:Kp.Ks Gt}(h:(Kp.ia k.jn).2=0):Kp.iY k=(⟨(Kp.ia k.jn).1,k.g⟩,0):=by unfold Kp.iY;rw[if_pos h]
theorem V3{a:Ak}:(ct a).2=0↔bG a=true:=by
 unfold ct
 split
 ·rename_i h;simp[h]
 ·rename_i h;simp[h]
theorem qV{a:Ak}(h:(ct a).2=0):bG a=true:=V3.1 h
theorem Rl{ask:Gt→Ak→Gt×Int×Int}{k:Kp.Ks Gt}{a:Ak}(h:¬(ct a).2=0):Kp.eF ask k a=(k,0,(ct a).2):=by
 unfold Kp.eF ct at *
 by_cases hm:bG a=true
 ·rw[if_pos hm] at h;exact absurd rfl h
 ·rw[if_neg hm,if_neg hm]
theorem Ri{ask:Gt→Ak→Gt×Int×Int}{k:Kp.Ks Gt}{a:Ak}(hm:bG a=true)(h:¬(ask k.g a).2.2=0):Kp.eF ask k a=(k,0,(ask k.g a).2.2):=by unfold Kp.eF;rw[if_pos hm,if_neg h]
theorem Rk{ask:Gt→Ak→Gt×Int×Int}{k:Kp.Ks Gt}{a:Ak}(hm:bG a=true)(h:(ask k.g a).2.2=0)(h2:¬(Kp.dY k.jn (ct a).1).2=0):Kp.eF ask k a=(k,0,(Kp.dY k.jn (ct a).1).2):=by unfold Kp.eF;rw[if_pos hm,if_pos h,if_neg h2]
theorem zT{ask:Gt→Ak→Gt×Int×Int}{k:Kp.Ks Gt}{a:Ak}(hm:bG a=true)(h:(ask k.g a).2.2=0)(h2:(Kp.dY k.jn (ct a).1).2=0):Kp.eF ask k a=(⟨(Kp.dY k.jn (ct a).1).1,(ask k.g a).1⟩,(ask k.g a).2.1,0):=by unfold Kp.eF;rw[if_pos hm,if_pos h,if_pos h2]
theorem zS(n p:Int)(k:Kp.Ks Gt)(hg:dm k.g)(hd:ef k.jn.d):ai E 37 [gx n p k] (fun r t=>r=gx n p k∧t=[]):=by
 have hg1:=hg.1
 have hg2:=hg.2.1
 obtain⟨s0,s1,s2,s3⟩:=hd
 refine ai.aC (n:=96) (rs:=[.cell 2 57]) Tryz.func37 rfl Tryz.ntmps37 rfl ?_
 repeat'(first
 |(
  refine aa.jS hc7 ?_
  first
  |(refine aa.jC [0,1,3] aj rfl rfl ?_;simp only[go_sem,lf,List.length_map];refine aa.weaken ?_ (hc7 m);(try simp only[go_sem]);(repeat'(first|refine And.intro ?_ ?_|trivial|exact .inr (bp rfl)|exact .inr dt));done)
  |(have he:k.g.an=[]:=Classical.byContradiction fun hne=>by
     have:=hbb (by simpa using hne)
     simp_all
    refine aa.kI 0 8 8 _ rfl rfl ?_
    simp only[go_sem]
    refine aa.weaken ?_ (hc7 0);(try simp only[go_sem,he,List.length_nil,List.map_nil,kX]);(repeat'(first|refine And.intro ?_ ?_|trivial|exact .inr (bp rfl)));done))
 |refine aa.ah fun K hK=>?_
 |(
  refine aa.here 7 32 7 rfl ?_
  ((fail_if_success(have h0:=hc7));refine aa.cutAt (ι:=Nat) [32,33,34,35,36,37] (fun(m:Nat)=>[]) (fun(m:Nat)=>[some [.agg [i64 n,i64 p,aU k.jn.d.f0.safe,aU k.jn.d.f0.tail,aU k.jn.d.f1.safe,aU k.jn.d.f1.tail,i64 k.jn.at',i64 k.jn.gen,.mu 2 8 0 k.g.an.length (k.g.an.length+m),cp k.g.aZ,bl k.g.kill,i64 k.g.now,i64 k.g.pat]],some [jf],some (k.g.an.map aO++spare 8 m)]) (fun(m:Nat)=>[]) hK (fun m=>?_) (fun hc7=>?_)))
 |(refine Cut.mk ?_;simp only[go_sem])
 |(
  refine aa.here 3 9 2 rfl ?_
  obtain rfl|rfl:i=0∨i=1:=by omega
  refine aa.region ?_;simp only[go_sem])
 |(
  refine aa.here 11 45 6 rfl ?_
  obtain⟨v,hx⟩:∃v,k.g.an[i]?=some v:=⟨_,List.getElem?_eq_getElem ab⟩
  have hv:=hg.2.2 v (List.mem_of_getElem? hx)
  have hx2:(k.g.an.map aO++spare 8 m)[i]?=some (aO v):=by rw[List.getElem?_append_left (by simpa using cu hx),List.getElem?_map,hx];rfl
  refine aa.region ?_;simp only[go_sem])
 |(
  refine aa.here 13 60 11 rfl ?_
  (try rw[cH hx])
  refine aa.region ?_;simp only[go_sem])
 |(
  refine aa.here 14 70 11 rfl ?_
  (try rw[cH hx])
  refine aa.region ?_;simp only[go_sem])
 |(
  refine aa.here 15 80 9 rfl ?_
  (try rw[cH hx])
  refine aa.region ?_;simp only[go_sem])
 |(
  refine aa.here 16 88 2 rfl ?_
  (try rw[cH hx])
  refine aa.region ?_;simp only[go_sem])
 |(
  refine aa.here 18 95 2 rfl ?_
  refine aa.eS 0 8 (jd:=2) (k:=8) (n:=k.g.an.length) (cap:=k.g.an.length+m) _ (k.g.an.map aO++spare 8 m) aj rfl rfl rfl (by simp[cZ]) (by rw[eP];exact fh _) ?_
  rw[eP]
  simp only[go_sem]
  refine aa.region ?_;simp only[go_sem])
 |(
  refine aa.here 3 5 4 rfl ?_
  refine aa.aX ?_
  refine al.kH eM ?_
  simp only[go_sem]
  refine al.at 3 1 rfl ?_
  simp only[go_sem]
  refine al.kr ka eM rfl rfl rfl (by simp;omega) (by simp;omega) ?_
  intro m
  simp only[go_sem]
  refine al.of ?_
  simp only[go_sem])
 |(refine aa.here 7 32 7 rfl ?_;refine aa.aX ?_;refine al.at 7 3 rfl ?_;simp only[go_sem])
 |(refine aa.region ?_;simp only[go_sem])
 |(refine aa.here 5 15 18 rfl ?_;refine aa.bA [0,1,2,3,4,5,7,8,9,10,6,11,12,13,14,15,16,17] [] ae ae rfl ?_;simp only[go_sem])
 |(refine hK _ ?_;clear hK K)
 |refine aa.block ?_
 |refine aa.cond rfl (fun c=>?_) (fun c=>?_)<;>(try simp only[dD] at c)
 |refine aa.skip ?_
 |(refine aa.exit ?_;simp only[go_sem])
 |(refine ak.one (ny _ ab) ae rfl ?_;simp only[go_sem])
 |(refine ak.one (eR v.book.aq hv.1) ae rfl ?_;simp only[go_sem])
 |(refine ak.one (eR v.aF hv.2.2.2) ae rfl ?_;simp only[go_sem])
 |(refine ak.one (kv v.book.av hv.2.1) ae rfl ?_;simp only[go_sem])
 |(refine ak.one (kV v.book.ids hv.2.2.1) ae rfl ?_;simp only[go_sem])
 |(refine ak.one (kF k.g.aZ hg2) ae rfl ?_;simp only[go_sem])
 |(refine al.call (rs:=[.tmp 2]) Tryz.func78 rfl Tryz.ntmps78 rfl ae rfl rfl ?_;simp only[go_sem])
 |(refine aQ.eu af ?_;(try simp only[go_sem]))
 |(refine aQ.gQ af ?_;(try simp only[go_sem]))
 |((with_reducible refine And.intro ?_ ?_);(focus(first|omega|(simp;done)));(try simp only[hb,go_sem]))
 |(
  refine aa.here 2 8 1 rfl ?_
  refine aa.dR (ι:=Nat) [3,4,8,9,10,11,12,13,14,15,16,17,18,19,20,21,22,23,24,25,26,27,28,29,30,31] (fun(i:Nat)=>[(7,i64 i)]) (fun(i:Nat)=>[some [gx n p k],some [jf]]) (fun(i:Nat)=>[]) (fun(i:Nat)=>i≤2) (fun(i:Nat)=>2-i) (0) ?_ ?_ ?_
  ·(try simp only[go_sem]);(try simp only[go_sem,eI,eJ]);(repeat'(first|exact vm|exact rI|refine And.intro ?_ ?_))
  ·omega
  rintro i h1
  simp only[go_sem])
 |(
  refine aa.here 9 43 1 rfl ?_
  refine aa.dW (ι:=Nat) [5,6,43,44,45,46,47,48,49,50,51,52,53,54,55,56,57,58,59,60,61,62,63,64,65,66,67,68,69,70,71,72,73,74,75,76,77,78,79,80,81,82,83,84,85,86,87,88] (fun(i:Nat)=>[(42,i64 i)]) (fun(i:Nat)=>i≤k.g.an.length) (fun(i:Nat)=>k.g.an.length-i) (0) ?_ ?_ ?_
  ·(try simp only[go_sem]);(repeat'(first|refine And.intro ?_ ?_|trivial|exact .inr (bp rfl)|exact .inr dt));done
  ·omega
  rintro i h1
  simp only[go_sem])
 |(
  refine⟨1,?_,?_,?_⟩
  ·(try simp only[go_sem]);(try rw[aN ab ab]);(try simp only[go_sem,eI,eJ]);(repeat'(first|exact vm|exact rI|refine And.intro ?_ ?_))
  ·omega
  ·(try simp only[]);omega)
 |(
  refine⟨2,?_,?_,?_⟩
  ·(try simp only[go_sem]);(try rw[aN ab ab]);(try simp only[go_sem,eI,eJ]);(repeat'(first|exact vm|exact rI|refine And.intro ?_ ?_))
  ·omega
  ·(try simp only[]);omega)
 |(
  refine⟨i+1,?_,?_,?_⟩
  ·(try simp only[go_sem]);(try rw[aN ab ab]);(repeat'(first|refine And.intro ?_ ?_|exact .inr rfl|trivial|exact .inr (bp rfl)|exact .inr dt));done
  ·omega
  ·(try simp only[]);omega)
 |(
  refine aa.ret ?_
  refine aM.is ?_;simp only[go_sem,aI,aH,aG,aK,aJ,aL]<;>(first|fail))
 |(refine aa.ret ?_;refine bV.ret rfl ?_;simp only[go_sem])
 |(refine aa.ret ?_;simp only[fV,fP];refine bV.ret rfl ?_;simp only[go_sem])
 |(refine al.of ?_;simp only[go_sem])
 |((fail_if_success(have:=hbb));(with_reducible intro bb hbb))
 |refine aa.fin af ?_)
theorem RX(n p:Int)(k:Kp.Ks Gt)(hg:dm k.g)(hd:ef k.jn.d):ai E 16 [gx n p k] (fun r t=>r= .ax [gx n p (Kp.iY k).1,i64 (Kp.iY k).2]∧t=[]):=by
 refine ai.aC (n:=22) (rs:=[.cell 2 57,.tmp 3]) Tryz.func16 rfl Tryz.ntmps16 rfl ?_
 repeat'(first
 |refine aa.ah fun K hK=>?_
 |(refine aa.region ?_;simp only[go_sem])
 |(refine hK _ ?_;clear hK K)
 |refine aa.cond rfl (fun c=>?_) (fun c=>?_)<;>(try simp only[dD] at c)
 |refine aa.skip ?_
 |(refine ak.one (zS n p k hg hd) ae rfl ?_;simp only[go_sem])
 |(refine ak.one (Q9 k.jn hd) ae rfl ?_;simp only[go_sem])
 |(
  refine aa.ret ?_
  refine aM.is ?_;simp only[go_sem,aI,aH,aG,aK,aJ,aL]<;>(first|(rw[RY af];exact⟨⟨rfl,rfl,rfl,rfl,rfl,rfl,rfl,rfl,rfl,rfl,rfl⟩,rfl⟩)|(rw[RZ af];exact⟨⟨rfl,rfl,rfl,rfl,rfl,rfl,rfl,rfl,rfl,rfl,rfl⟩,rfl⟩))))
theorem Rj(ask:Gt→Ak→Gt×Int×Int)(n p:Int)(k:Kp.Ks Gt)(a:Ak)(hg:dm k.g)(hd:ef k.jn.d)(hl:bG a=true→(ct a).1.length≤1000000)(hask:bG a=true→ai E 38 [bO k.g,jP a] (fun r t=>r= .ax [bO (ask k.g a).1,i64 (ask k.g a).2.1,i64 (ask k.g a).2.2]∧t=[])):ai E 14 [gx n p k,jP a] (fun r t=>r= .ax [gx n p (Kp.eF ask k a).1,i64 (Kp.eF ask k a).2.1,i64 (Kp.eF ask k a).2.2]∧t=[]):=by
 refine ai.aC (n:=53) (rs:=[.cell 4 57,.tmp 5,.tmp 6]) Tryz.func14 rfl Tryz.ntmps14 rfl ?_
 repeat'(first
 |refine aa.ah fun K hK=>?_
 |(refine aa.region ?_;simp only[go_sem])
 |(refine aa.here 11 47 6 rfl ?_;apply aa.oz (.take 0 (.take 2 (.fork (.alt 1 (.take 3 (.take 4 (.take 5 .done))) (.alt 3 (.take 1 (.take 4 (.take 5 .done))) .ends))))) [[],[],[0],[0,2],[0,1,2,3],[0,1,2,3,4]] [] ae ae aj;simp only[go_sem])
 |(refine hK _ ?_;clear hK K)
 |refine aa.cond rfl (fun c=>?_) (fun c=>?_)<;>(try simp only[dD] at c)
 |refine aa.skip ?_
 |(refine ak.one (zS n p k hg hd) ae rfl ?_;simp only[go_sem])
 |(refine ak.one (vk a) ae rfl ?_;simp only[go_sem])
 |(refine ak.one (hask (qV af)) ae rfl ?_;simp only[go_sem])
 |(refine ak.one (QX k.jn (ct a).1 hd (hl (qV af))) ae rfl ?_;simp only[go_sem])
 |exact rfl
 |(
  refine aa.ret ?_
  refine aM.is ?_;simp only[go_sem,aI,aH,aG,aK,aJ,aL]<;>(first|(rw[Rl af];exact⟨⟨rfl,rfl,rfl,rfl,rfl,rfl,rfl,rfl,rfl,rfl,rfl⟩,rfl,rfl⟩)|(rw[Ri (qV af) af];exact⟨⟨rfl,rfl,rfl,rfl,rfl,rfl,rfl,rfl,rfl,rfl,rfl⟩,rfl,rfl⟩)|(rw[Rk (qV af) af af];exact⟨⟨rfl,rfl,rfl,rfl,rfl,rfl,rfl,rfl,rfl,rfl,rfl⟩,rfl,rfl⟩)|(rw[zT (qV af) af af];exact⟨⟨rfl,rfl,rfl,rfl,rfl,rfl,rfl,rfl,rfl,rfl,rfl⟩,rfl,rfl⟩))))
end Go.Proofs.YthoonfpkfdjhiaaGreatDoor
end
section
namespace Go.Proofs.YthoonfpkfdjhiaaGreatDoor
open Go Go.az Go.RowKit Go.Bk
theorem gJ{l:List Vn}{k m:Nat}{v:Vn}:((l.set k v).map aO++spare 8 m).take l.length=(l.set k v).map aO:=List.take_left' aB
theorem oA{l:List Vn}{k m:Nat}{v:Vn}(h:k<l.length):(l.map aO++spare 8 m).set k (aO v)=(l.set k v).map aO++spare 8 m:=by
 rw[List.set_append_left _ _ (by simpa using h),List.map_set]
theorem PS(g:Gt)(n:Int)(b:Bool)(hg:dm g):ai E 88 [bO g,i64 n,bl b] (fun r t=>r= .ax [bO (jU g n b).1,i64 (jU g n b).2]∧t=[]):=by
 have hgi:=hg.fit
 have hg1:=hg.1
 have hg2:=hg.2.1
 refine ai.aC (n:=23) (rs:=[.cell 6 55,.tmp 7]) Tryz.func88 rfl Tryz.ntmps88 rfl ?_
 repeat'(first
 |(
  refine aa.jS hc1 ?_
  first
  |(refine aa.jC [0,1,2,3,5] aj rfl rfl ?_;simp only[go_sem,lf,List.length_map];refine aa.weaken ?_ (hc1 m);(try simp only[go_sem]);(repeat'(first|refine And.intro ?_ ?_|trivial|exact .inr (bp rfl)|exact .inr dt));done)
  |(have he:g.an=[]:=Classical.byContradiction fun hne=>by
     have:=hbb (by simpa using hne)
     simp_all
    refine aa.kI 2 0 8 _ rfl rfl ?_
    simp only[go_sem]
    refine aa.weaken ?_ (hc1 0);(try simp only[go_sem,he,List.length_nil,List.map_nil,kX]);(repeat'(first|refine And.intro ?_ ?_|trivial|exact .inr (bp rfl)));done))
 |refine aa.ah fun K hK=>?_
 |(
  refine aa.here 1 5 5 rfl ?_
  first
  |(have h0:=hc1;clear h0;refine aa.aX ?_;refine al.at 5 2 rfl ?_;simp only[go_sem])
  |(refine aa.cutAt (ι:=Nat) [5,6,7,8] (fun(m:Nat)=>[]) (fun(m:Nat)=>[some [.agg [fa g.an,cp g.aZ,bl g.kill,i64 g.now,i64 g.pat]],some [.agg [.aw,.aw,bl false,i64 0,i64 0]],some [.agg [.mu 4 8 0 g.an.length (g.an.length+m),cp g.aZ,bl g.kill,i64 g.now,i64 g.pat]],some [.agg [.aw,.aw,bl false,i64 0,i64 0]],some (g.an.map aO++spare 8 m)]) (fun(m:Nat)=>[]) hK (fun m=>?_) (fun hc1=>?_)))
 |(refine Cut.mk ?_;simp only[go_sem])
 |(
  refine aa.here 3 15 3 rfl ?_
  refine aa.eS 5 0 (jd:=4) (k:=8) (n:=g.an.length) (cap:=g.an.length+m) _ (g.an.map aO++spare 8 m) aj rfl rfl rfl (by simp[cZ]) (by rw[eP];exact fh _) ?_
  rw[eP]
  simp only[go_sem]
  refine aa.region ?_;simp only[go_sem])
 |(
  refine aa.here 4 16 7 rfl ?_
  obtain⟨k,v,rfl,hx⟩:=kB af
  have hn:=cu hx
  have hx2:(g.an.map aO++spare 8 m)[k]?=some (aO v):=by rw[List.getElem?_append_left (by simpa using cu hx),List.getElem?_map,hx];rfl
  refine aa.region ?_;simp only[go_sem])
 |(
  refine aa.here 5 22 3 rfl ?_
  rw[show(g.an.map aO++spare 8 m).set k (.agg [bz v.book.aq,dn v.book.av,.sl none 1 (v.book.ids.map str),i64 v.book.clock,i64 v.book.bad,bz v.aF,i64 v.last,bl b])=(g.an.set k ⟨v.book,v.aF,v.last,b⟩).map aO++spare 8 m from oA (v:=⟨v.book,v.aF,v.last,b⟩) hn]
  refine aa.eS 5 0 (jd:=4) (k:=8) (n:=g.an.length) (cap:=g.an.length+m) _ ((g.an.set k ⟨v.book,v.aF,v.last,b⟩).map aO++spare 8 m) aj rfl rfl rfl (by simp[cZ]) (by rw[gJ];exact fh _) ?_
  rw[gJ]
  simp only[go_sem]
  refine aa.region ?_;simp only[go_sem])
 |(
  refine aa.here 5 15 5 rfl ?_
  obtain⟨v,hx⟩:∃v,g.an[i]?=some v:=⟨_,List.getElem?_eq_getElem ab⟩
  have hv:=hg.2.2 v (List.mem_of_getElem? hx)
  have hx2:(g.an.map aO++spare 8 m)[i]?=some (aO v):=by rw[List.getElem?_append_left (by simpa using cu hx),List.getElem?_map,hx];rfl
  refine aa.region ?_;simp only[go_sem])
 |(
  refine aa.here 7 29 11 rfl ?_
  (try rw[cH hx])
  refine aa.region ?_;simp only[go_sem])
 |(
  refine aa.here 8 39 11 rfl ?_
  (try rw[cH hx])
  refine aa.region ?_;simp only[go_sem])
 |(
  refine aa.here 9 49 9 rfl ?_
  (try rw[cH hx])
  refine aa.region ?_;simp only[go_sem])
 |(
  refine aa.here 10 57 2 rfl ?_
  (try rw[cH hx])
  refine aa.region ?_;simp only[go_sem])
 |(
  refine aa.here 3 5 4 rfl ?_
  refine aa.aX ?_
  refine al.kH eM ?_
  simp only[go_sem]
  refine al.at 3 1 rfl ?_
  simp only[go_sem]
  refine al.kr ka eM rfl rfl rfl (by simp;omega) (by simp;omega) ?_
  intro m
  simp only[go_sem]
  refine al.of ?_
  simp only[go_sem])
 |(refine aa.here 1 9 4 rfl ?_;refine aa.aX ?_;refine al.at 4 1 rfl ?_;simp only[go_sem])
 |(refine aa.region ?_;simp only[go_sem])
 |(refine hK _ ?_;clear hK K)
 |refine aa.block ?_
 |refine aa.cond rfl (fun c=>?_) (fun c=>?_)<;>(try simp only[dD] at c)
 |refine aa.skip ?_
 |(refine aa.exit ?_;simp only[go_sem])
 |(refine ak.one (js g n hgi) ae rfl ?_;simp only[go_sem])
 |(refine ak.one (eR v.book.aq hv.1) ae rfl ?_;simp only[go_sem])
 |(refine ak.one (eR v.aF hv.2.2.2) ae rfl ?_;simp only[go_sem])
 |(refine ak.one (kv v.book.av hv.2.1) ae rfl ?_;simp only[go_sem])
 |(refine ak.one (kV v.book.ids hv.2.2.1) ae rfl ?_;simp only[go_sem])
 |(refine ak.one (kF g.aZ hg2) ae rfl ?_;simp only[go_sem])
 |(refine al.call (rs:=[.cell 2 55]) Tryz.func127 rfl Tryz.ntmps127 rfl ae rfl rfl ?_;simp only[go_sem])
 |(refine al.call (rs:=[.tmp 2]) Tryz.func78 rfl Tryz.ntmps78 rfl ae rfl rfl ?_;simp only[go_sem])
 |(refine aQ.eu af ?_;(try simp only[go_sem]))
 |(refine aQ.gQ af ?_;(try simp only[go_sem]))
 |((with_reducible refine And.intro ?_ ?_);(focus(first|omega|(simp;done)));(try simp only[hb,go_sem]))
 |(
  refine aa.here 3 13 1 rfl ?_
  refine aa.dW (ι:=Nat) [3,4,13,14,15,16,17,18,19,20,21,22,23,24,25,26,27,28,29,30,31,32,33,34,35,36,37,38,39,40,41,42,43,44,45,46,47,48,49,50,51,52,53,54,55,56,57] (fun(i:Nat)=>[(12,i64 i)]) (fun(i:Nat)=>i≤g.an.length) (fun(i:Nat)=>g.an.length-i) (0) ?_ ?_ ?_
  ·(try simp only[go_sem]);(repeat'(first|refine And.intro ?_ ?_|trivial|exact .inr (bp rfl)|exact .inr dt));done
  ·omega
  rintro i h1
  simp only[go_sem])
 |(
  refine⟨i+1,?_,?_,?_⟩
  ·(try simp only[go_sem]);(try rw[aN ab ab]);(repeat'(first|refine And.intro ?_ ?_|exact .inr rfl|trivial|exact .inr (bp rfl)|exact .inr dt));done
  ·omega
  ·(try simp only[]);omega)
 |(
  refine aa.ret ?_
  refine aM.is ?_;simp only[go_sem,aI,aH,aG,aK,aJ,aL]<;>(first|(rw[zk af];simp;done)|(rw[zl af hx];simp[dT];done)))
 |(refine aa.ret ?_;refine bV.ret rfl ?_;simp only[go_sem])
 |(refine aa.ret ?_;simp only[fV,fP];refine bV.ret rfl ?_;simp only[go_sem])
 |(refine al.of ?_;simp only[go_sem])
 |((fail_if_success(have:=hbb));(with_reducible intro bb hbb))
 |refine aa.fin af ?_)
theorem PX(g:Gt)(n:Int)(hg:dm g):ai E 89 [bO g,i64 n] (fun r t=>r= .ax [bO (iU g n).1,i64 (iU g n).2]∧t=[]):=by
 have hgi:=hg.fit
 have hg1:=hg.1
 have hg2:=hg.2.1
 refine ai.aC (n:=30) (rs:=[.cell 4 55,.tmp 5]) Tryz.func89 rfl Tryz.ntmps89 rfl ?_
 repeat'(first
 |(
  refine aa.jS hc1 ?_
  first
  |(refine aa.jC [0,1,2,3,5] aj rfl rfl ?_;simp only[go_sem,lf,List.length_map];refine aa.weaken ?_ (hc1 m);(try simp only[go_sem]);(repeat'(first|refine And.intro ?_ ?_|trivial|exact .inr (bp rfl)|exact .inr dt));done)
  |(have he:g.an=[]:=Classical.byContradiction fun hne=>by
     have:=hbb (by simpa using hne)
     simp_all
    refine aa.kI 2 0 8 _ rfl rfl ?_
    simp only[go_sem]
    refine aa.weaken ?_ (hc1 0);(try simp only[go_sem,he,List.length_nil,List.map_nil,kX]);(repeat'(first|refine And.intro ?_ ?_|trivial|exact .inr (bp rfl)));done))
 |refine aa.ah fun K hK=>?_
 |(
  refine aa.here 1 5 5 rfl ?_
  first
  |(have h0:=hc1;clear h0;refine aa.aX ?_;refine al.at 5 2 rfl ?_;simp only[go_sem])
  |(refine aa.cutAt (ι:=Nat) [5,6,7,8] (fun(m:Nat)=>[]) (fun(m:Nat)=>[some [.agg [fa g.an,cp g.aZ,bl g.kill,i64 g.now,i64 g.pat]],some [.agg [.aw,.aw,bl false,i64 0,i64 0]],some [.agg [.mu 4 8 0 g.an.length (g.an.length+m),cp g.aZ,bl g.kill,i64 g.now,i64 g.pat]],some [.agg [.aw,.aw,bl false,i64 0,i64 0]],some (g.an.map aO++spare 8 m)]) (fun(m:Nat)=>[]) hK (fun m=>?_) (fun hc1=>?_)))
 |(refine Cut.mk ?_;simp only[go_sem])
 |(
  refine aa.here 3 13 3 rfl ?_
  refine aa.eS 5 0 (jd:=4) (k:=8) (n:=g.an.length) (cap:=g.an.length+m) _ (g.an.map aO++spare 8 m) aj rfl rfl rfl (by simp[cZ]) (by rw[eP];exact fh _) ?_
  rw[eP]
  simp only[go_sem]
  refine aa.region ?_;simp only[go_sem])
 |(
  refine aa.here 4 14 8 rfl ?_
  obtain⟨k,v,rfl,hx⟩:=kB af
  have hn:=cu hx
  have hx2:(g.an.map aO++spare 8 m)[k]?=some (aO v):=by rw[List.getElem?_append_left (by simpa using cu hx),List.getElem?_map,hx];rfl
  refine aa.region ?_;simp only[go_sem])
 |(
  refine aa.here 5 22 3 rfl ?_
  refine aa.eS 5 0 (jd:=4) (k:=8) (n:=g.an.length) (cap:=g.an.length+m) _ (g.an.map aO++spare 8 m) aj rfl rfl rfl (by simp[cZ]) (by rw[eP];exact fh _) ?_
  rw[eP]
  simp only[go_sem]
  refine aa.region ?_;simp only[go_sem])
 |(
  refine aa.here 7 29 3 rfl ?_
  rw[show(g.an.map aO++spare 8 m).set k (.agg [bz v.book.aq,dn v.book.av,.sl none 1 (v.book.ids.map str),i64 v.book.clock,i64 0,bz v.aF,i64 v.last,bl v.bq])=(g.an.set k ⟨⟨v.book.aq,v.book.av,v.book.ids,v.book.clock,0⟩,v.aF,v.last,v.bq⟩).map aO++spare 8 m from oA (v:=⟨⟨v.book.aq,v.book.av,v.book.ids,v.book.clock,0⟩,v.aF,v.last,v.bq⟩) hn]
  refine aa.eS 5 0 (jd:=4) (k:=8) (n:=g.an.length) (cap:=g.an.length+m) _ ((g.an.set k ⟨⟨v.book.aq,v.book.av,v.book.ids,v.book.clock,0⟩,v.aF,v.last,v.bq⟩).map aO++spare 8 m) aj rfl rfl rfl (by simp[cZ]) (by rw[gJ];exact fh _) ?_
  rw[gJ]
  simp only[go_sem]
  refine aa.region ?_;simp only[go_sem])
 |(
  refine aa.here 5 15 5 rfl ?_
  obtain⟨v,hx⟩:∃v,g.an[i]?=some v:=⟨_,List.getElem?_eq_getElem ab⟩
  have hv:=hg.2.2 v (List.mem_of_getElem? hx)
  have hx2:(g.an.map aO++spare 8 m)[i]?=some (aO v):=by rw[List.getElem?_append_left (by simpa using cu hx),List.getElem?_map,hx];rfl
  refine aa.region ?_;simp only[go_sem])
 |(
  refine aa.here 7 29 11 rfl ?_
  (try rw[cH hx])
  refine aa.region ?_;simp only[go_sem])
 |(
  refine aa.here 8 39 11 rfl ?_
  (try rw[cH hx])
  refine aa.region ?_;simp only[go_sem])
 |(
  refine aa.here 9 49 9 rfl ?_
  (try rw[cH hx])
  refine aa.region ?_;simp only[go_sem])
 |(
  refine aa.here 10 57 2 rfl ?_
  (try rw[cH hx])
  refine aa.region ?_;simp only[go_sem])
 |(
  refine aa.here 3 5 4 rfl ?_
  refine aa.aX ?_
  refine al.kH eM ?_
  simp only[go_sem]
  refine al.at 3 1 rfl ?_
  simp only[go_sem]
  refine al.kr ka eM rfl rfl rfl (by simp;omega) (by simp;omega) ?_
  intro m
  simp only[go_sem]
  refine al.of ?_
  simp only[go_sem])
 |(refine aa.here 1 7 4 rfl ?_;refine aa.aX ?_;refine al.at 4 1 rfl ?_;simp only[go_sem])
 |(refine aa.region ?_;simp only[go_sem])
 |(refine hK _ ?_;clear hK K)
 |refine aa.block ?_
 |refine aa.cond rfl (fun c=>?_) (fun c=>?_)<;>(try simp only[dD] at c)
 |refine aa.skip ?_
 |(refine aa.exit ?_;simp only[go_sem])
 |(refine ak.one (js g n hgi) ae rfl ?_;simp only[go_sem])
 |(refine ak.one (eR v.book.aq hv.1) ae rfl ?_;simp only[go_sem])
 |(refine ak.one (eR v.aF hv.2.2.2) ae rfl ?_;simp only[go_sem])
 |(refine ak.one (kv v.book.av hv.2.1) ae rfl ?_;simp only[go_sem])
 |(refine ak.one (kV v.book.ids hv.2.2.1) ae rfl ?_;simp only[go_sem])
 |(refine ak.one (kF g.aZ hg2) ae rfl ?_;simp only[go_sem])
 |(refine al.call (rs:=[.cell 2 55]) Tryz.func127 rfl Tryz.ntmps127 rfl ae rfl rfl ?_;simp only[go_sem])
 |(refine al.call (rs:=[.tmp 2]) Tryz.func78 rfl Tryz.ntmps78 rfl ae rfl rfl ?_;simp only[go_sem])
 |(refine aQ.eu af ?_;(try simp only[go_sem]))
 |(refine aQ.gQ af ?_;(try simp only[go_sem]))
 |((with_reducible refine And.intro ?_ ?_);(focus(first|omega|(simp;done)));(try simp only[hb,go_sem]))
 |(
  refine aa.here 3 13 1 rfl ?_
  refine aa.dW (ι:=Nat) [3,4,13,14,15,16,17,18,19,20,21,22,23,24,25,26,27,28,29,30,31,32,33,34,35,36,37,38,39,40,41,42,43,44,45,46,47,48,49,50,51,52,53,54,55,56,57] (fun(i:Nat)=>[(12,i64 i)]) (fun(i:Nat)=>i≤g.an.length) (fun(i:Nat)=>g.an.length-i) (0) ?_ ?_ ?_
  ·(try simp only[go_sem]);(repeat'(first|refine And.intro ?_ ?_|trivial|exact .inr (bp rfl)|exact .inr dt));done
  ·omega
  rintro i h1
  simp only[go_sem])
 |(
  refine⟨i+1,?_,?_,?_⟩
  ·(try simp only[go_sem]);(try rw[aN ab ab]);(repeat'(first|refine And.intro ?_ ?_|exact .inr rfl|trivial|exact .inr (bp rfl)|exact .inr dt));done
  ·omega
  ·(try simp only[]);omega)
 |(
  refine aa.ret ?_
  refine aM.is ?_;simp only[go_sem,aI,aH,aG,aK,aJ,aL]<;>(first|(rw[BL af];simp;done)|(rw[BM af hx af];simp;done)|(rw[BN af hx af];simp[dT];done)))
 |(refine aa.ret ?_;refine bV.ret rfl ?_;simp only[go_sem])
 |(refine aa.ret ?_;simp only[fV,fP];refine bV.ret rfl ?_;simp only[go_sem])
 |(refine al.of ?_;simp only[go_sem])
 |((fail_if_success(have:=hbb));(with_reducible intro bb hbb))
 |refine aa.fin af ?_)
theorem S9{g:Gt}{x:Lm}(h:bY g=true)(h2:¬(fp g.aZ x).2=0):iN g x=(g,(fp g.aZ x).2):=by unfold iN;rw[if_pos h,if_neg h2]
theorem Tb{g:Gt}{x:Lm}(h:bY g=true)(h2:(fp g.aZ x).2=0):iN g x=(⟨g.an,(fp g.aZ x).1,g.kill,g.now,g.pat⟩,0):=by unfold iN;rw[if_pos h,if_pos h2]
theorem abT:∀(j:Nat) (z z':AV),([.aw,.aw,.aw,.v (.int .i64 0),.v (.int .i64 0),.aw,.v (.int .i64 0),.v (.bool false)]:List AV)[j]?=some z→([.sl none 8 [],.sl none 9 [],.sl none 1 [],i64 0,i64 0,.sl none 8 [],i64 0,bl false]:List AV)[j]?=some z'→z'=z∨(z= .aw∧∃q,z'= .sl none q []):=by
 intro j z z' h1 h2
 match j with
 |0=>cases h1;cases h2;exact .inr ⟨rfl,_,rfl⟩
 |1=>cases h1;cases h2;exact .inr ⟨rfl,_,rfl⟩
 |2=>cases h1;cases h2;exact .inr ⟨rfl,_,rfl⟩
 |3=>cases h1;cases h2;exact .inl rfl
 |4=>cases h1;cases h2;exact .inl rfl
 |5=>cases h1;cases h2;exact .inr ⟨rfl,_,rfl⟩
 |6=>cases h1;cases h2;exact .inl rfl
 |7=>cases h1;cases h2;exact .inl rfl
 |j+8=>simp at h1
theorem u4(n p:Int):ai E 20 [i64 n,i64 p] (fun r t=>r= .ax [bO (dw n p).1,i64 (dw n p).2]∧t=[]):=by
 refine ai.aC (n:=22) (rs:=[.cell 4 55,.tmp 5]) Tryz.func20 rfl Tryz.ntmps20 rfl ?_
 repeat'(first
 |refine aa.ah fun K hK=>?_
 |(
  refine aa.here 3 18 6 rfl ?_
  have hnn:∃m:Nat,n=(m:Int)∧1≤m∧m≤4:=⟨n.toNat,by omega,by omega,by omega⟩
  obtain⟨m,rfl,hm1,hm4⟩:=hnn
  refine aa.aX ?_
  refine al.at 6 1 rfl ?_
  simp only[go_sem]
  refine al.Ty (m:=m) (zs':=[.sl none 8 [],.sl none 9 [],.sl none 1 [],i64 0,i64 0,.sl none 8 [],i64 0,bl false]) eM CO rfl rfl rfl abT ab aj aj ?_
  simp only[go_sem]
  refine al.of ?_
  simp only[go_sem])
 |(refine aa.region ?_;simp only[go_sem])
 |(refine hK _ ?_;clear hK K)
 |refine aa.cond rfl (fun c=>?_) (fun c=>?_)<;>first|exact Bool.noConfusion c|(try simp only[dD] at c)
 |refine aa.skip ?_
 |(refine ak.one (u5 _) ae rfl ?_;simp only[go_sem])
 |(refine aP.df (fun h=>?_) (fun h=>?_)<;>simp only[h,go_sem]<;>(try simp only[dD] at h))
 |(
  refine aa.ret ?_
  refine aM.is ?_;simp only[go_sem,aI,aH,aG,aK,aJ,aL,fa,cp]<;>(first|(rw[vI (.inl af)];simp;done)|(rw[vI (.inr (.inl af))];simp;done)|(rw[vI (.inr (.inr af))];simp;done)|(rw[vJ ab ab af];simp[zeroV];done))))
theorem PU(g:Gt)(x:Lm)(hg:dm g)(hs:ai E 136 [cp g.aZ,bD x] (fun r t=>r= .ax [cp (fp g.aZ x).1,i64 (fp g.aZ x).2]∧t=[])):ai E 90 [bO g,bD x] (fun r t=>r= .ax [bO (iN g x).1,i64 (iN g x).2]∧t=[]):=by
 have hgi:=hg.fit
 refine ai.aC (n:=29) (rs:=[.cell 4 55,.tmp 5]) Tryz.func90 rfl Tryz.ntmps90 rfl ?_
 repeat'(first
 |refine aa.ah fun K hK=>?_
 |(refine aa.region ?_;simp only[go_sem])
 |(refine hK _ ?_;clear hK K)
 |refine aa.cond rfl (fun c=>?_) (fun c=>?_)<;>(try simp only[dD] at c)
 |refine aa.skip ?_
 |(refine ak.one (nL g hg) ae rfl ?_;simp only[go_sem])
 |(refine ak.one (qL g hgi) ae rfl ?_;simp only[go_sem])
 |(refine ak.one (hs) ae rfl ?_;simp only[go_sem])
 |(
  refine aa.ret ?_
  refine aM.is ?_;simp only[go_sem,aI,aH,aG,aK,aJ,aL]<;>(first|(rw[Ta af];simp;done)|(rw[S9 af af];simp;done)|(rw[Tb af af];simp;done))))
theorem zr(g:Gt)(n:Int)(o:Od)(hg:dm g)(hn:bQ g n=false∨bW (ed o)=false):ai E 83 [bO g,i64 n,bj o] (fun r t=>r= .ax [bO g,i64 0,i64 1]∧t=[]):=by
 have hgi:=hg.fit
 refine ai.aC (n:=56) (rs:=[.cell 6 55,.tmp 7,.tmp 8]) Tryz.func83 rfl Tryz.ntmps83 rfl ?_
 repeat'(first
 |refine aa.ah fun K hK=>?_
 |(refine aa.region ?_;simp only[go_sem])
 |(refine hK _ ?_;clear hK K)
 |refine aa.cond rfl (fun c=>?_) (fun c=>?_)<;>first|exact Bool.noConfusion c|(try simp only[dD] at c)
 |refine aa.skip ?_
 |(refine ak.one (nL g hg) ae rfl ?_;simp only[go_sem])
 |(refine ak.one (js g n hgi) ae rfl ?_;simp only[go_sem])
 |(refine ak.one (om (ed o)) ae rfl ?_;simp only[go_sem])
 |(refine aP.split (fun h=>?_) (fun h=>?_)<;>simp only[h,go_sem]<;>(try simp only[dD] at h))
 |(
  refine aa.ret ?_
  refine aM.is ?_;simp only[go_sem,aI,aH,aG,aK,aJ,aL]<;>(first|fail))
 |(exfalso;rcases hn with hn|hn<;>simp_all;done))
end Go.Proofs.YthoonfpkfdjhiaaGreatDoor
end
section
namespace Go.Proofs.YthoonfpkfdjhiaaGreatDoor
open Go Go.az Go.RowKit Go.Bk Go.Msg Go.Txt
set_option maxRecDepth 1000000 in
theorem KS(cap b2 o2 d:Nat)(cv:Int)(w:World)(h2:w.cell? ⟨b2,o2,none⟩=some (.int .u8 cv)):Calls Tryz.prog 194 #[.slice none 0 cap,.slice (some ⟨b2,o2,none⟩) 1 d] w fun e w'=>e= .returned (.int .i64 0)∧w'=w:=by
 have L:=Tryz.vr
 have mixed:=L.mixed
 have t0:=L.t0;have t3:=L.t3;have t4:=L.t4;have t5:=L.t5;have a0:=L.a0;have a3:=L.a3;have a4:=L.a4;have a5:=L.a5
 have z0:=L.z0;have z3:=L.z3;have z4:=L.z4;have z5:=L.z5;have v0:=L.v0;have v3:=L.v3;have v4:=L.v4;have v5:=L.v5
 go_enter Tryz.func194,Tryz.ntmps194
 go_wp2
 rw[run_callFunc_extern Tryz.func232 ae ae ae (e:=Extern.BytealgCount.count) ae,Lib.run_countNil w 0 cap cv]
 simp only[Result.andThen]
 rw[Oper.upon_value]
 go_wp2
 go_ret
 exact⟨rfl,rfl⟩
theorem E1(c:UInt8):ai E 194 [aU [],aU [c]] (fun r t=>r=i64 0∧t=[]):=by
 intro w im vs hok hg him hpw
 obtain⟨hn,hp⟩:=hpw
 match vs,hn with
 |[v0,v1],_=>
  have h0:=hp 0 _ v0 rfl rfl
  have h1:=hp 1 _ v1 rfl rfl
  obtain⟨b2,o2,d,rfl,hb2⟩:=wM him aB h1
  have h2:w.cell? ⟨b2,o2,none⟩=some (.int .u8 c.toNat):=by simpa using hb2 0 aB
  obtain⟨a,cap,rfl,hcap,hes⟩:=h0.fk
  cases a with
  |none=>
   refine(KS cap b2 o2 d c.toNat w h2).mono ?_
   rintro e w' ⟨rfl,rfl⟩
   exact⟨_,_,[],im,rfl,kb (Go.RowKit.Below.refl _ _),.refl _,fun _ _ _=>rfl,him,⟨by simp,by simp⟩,.base (.v _),rfl,rfl⟩
  |some a=>
   refine(Tryz.bytes_Count_one_at a 0 cap b2 o2 d [] c.toNat w rfl (by intro i hi;omega) h2).mono ?_
   rintro e w' ⟨rfl,rfl⟩
   exact⟨_,_,[],im,rfl,kb (Go.RowKit.Below.refl _ _),.refl _,fun _ _ _=>rfl,him,⟨by simp,by simp⟩,.base (.v _),rfl,rfl⟩
theorem WQ(bo bn:UInt8):ai E 161 [aU [],.sl none 1 [u8 bo],.sl none 1 [u8 bn],i64 (-1)] (fun r t=>r=aU []∧t=[]):=by
 refine ai.aC (n:=132) (rs:=[.tmp 8]) Tryz.func161 rfl Tryz.ntmps161 rfl ?_
 repeat'(first
 |refine aa.ah fun K hK=>?_
 |(refine aa.region ?_;simp only[go_sem])
 |(refine hK _ ?_;clear hK K)
 |refine aa.cond rfl (fun c=>?_) (fun c=>?_)<;>first|exact Bool.noConfusion c|(try simp only[dD] at c)
 |(refine ak.one (E1 bo) ae rfl ?_;simp only[go_sem])
 |(
  refine aa.ret ?_
  refine aM.is ?_;simp only[go_sem,aI,aH,aG,aK,aJ,aL]<;>(first|fail)))
theorem WM(bo bn:UInt8):ai E 118 [aU [],.sl none 1 [u8 bo],.sl none 1 [u8 bn]] (fun r t=>r=aU []∧t=[]):=by
 refine ai.aC (n:=11) (rs:=[.tmp 6]) Tryz.func118 rfl Tryz.ntmps118 rfl ?_
 repeat'(first
 |refine aa.ah fun K hK=>?_
 |(refine aa.region ?_;simp only[go_sem])
 |(refine hK _ ?_;clear hK K)
 |(refine ak.one (WQ bo bn) ae rfl ?_;simp only[go_sem])
 |(
  refine aa.ret ?_
  refine aM.is ?_;simp only[go_sem,aI,aH,aG,aK,aJ,aL]<;>(first|fail)))
theorem WN(s:List UInt8)(hs:s.length≤5000):ai E 118 [aU s,.sl none 1 [u8 2],.sl none 1 [u8 1]] (fun r t=>r=aU (s.map la)∧t=[]):=by
 by_cases h:s=[]
 ·subst h;exact WM 2 1
 ·exact BI 2 1 s h hs
end Go.Proofs.YthoonfpkfdjhiaaGreatDoor
end
section
namespace Go.Proofs.YthoonfpkfdjhiaaGreatDoor
open Go Go.az Go.RowKit Go.Fld
theorem Ly(l:Bs)(c:UInt8):Lib.cut l [c]=match cO c l with|none=>(l,[],false)|some p=>(p.1,p.2,true):=by
 have hi:Lib.index l [c]=Lib.indexByte l c:=by
  induction l with
  |nil=>rfl
  |cons b l ih=>
   unfold Lib.index Lib.indexByte
   rw[ih]
   have:[c].isPrefixOf (b::l)=(b==c):=by
    simp only[List.isPrefixOf,Bool.and_true]
    rw[Bool.eq_iff_iff,beq_iff_eq,beq_iff_eq];exact eq_comm
   rw[this]
 unfold Lib.cut
 rw[hi,qP]
 cases h:cO c l with
 |none=>rfl
 |some p=>
  obtain⟨a,b⟩:=p
  obtain⟨h1,_⟩:=lF.1 h
  have e:l.drop (a.length+1)=b:=by rw[h1,←List.drop_drop,List.drop_left];rfl
  have e2:l.take a.length=a:=by rw[h1,List.take_left]
  show(if 0≤(a.length:Int) then(l.take a.length,l.drop (a.length+1),true) else(l,[],false))=(a,b,true)
  rw[if_pos ab,e,e2]
theorem Xw(s:Bs)(c:UInt8)(hs:s.length<4294967281):ai E 124 [str s,str [c]] (fun r t=>t=[]∧r=match cO c s with|none=> .ax [str s,str [],bl false]|some p=> .ax [str p.1,str p.2,bl true]):=by
 have hsz:(⟨s.toArray⟩:ByteArray).size=s.length:=by simp[ByteArray.size]
 exact ai.sZ (E:=E) (f:=124) (xs:=[.string ⟨s.toArray⟩,.string ⟨[c].toArray⟩]) (S:=fun v=>v= .tuple #[.string ⟨(Lib.cut s [c]).1.toArray⟩,.string ⟨(Lib.cut s [c]).2.1.toArray⟩,.bool (Lib.cut s [c]).2.2])
  (fun w hok=>by
    obtain⟨m,hm⟩:=hok.2.2
    exact(Tryz.strings_Cut ⟨s.toArray⟩ ⟨[c].toArray⟩ m w (by rw[hsz];exact hs) hm).mono (by
     rintro e w' ⟨rfl,n,rfl⟩
     exact⟨⟨_,rfl,rfl⟩,kb (below_drewN w n)⟩))
  (by
    rintro v rfl
    refine⟨_,fun _=>ZM _ _ _,rfl,?_⟩
    rw[Ly]
    cases cO c s<;>rfl)
set_option maxRecDepth 100000 in
theorem Qp(cap:Nat)(cv:Int)(w:World):Calls Tryz.prog 70 #[.slice none 0 cap,.int .u8 cv] w fun e w'=>e= .returned (.int .i64 (-1))∧w'=w:=by
 have L:=Tryz.zX
 have t3:=L.t3;have t5:=L.t5;have t37:=L.t37
 have a3:=L.a3;have a5:=L.a5;have a37:=L.a37
 have mixed:=L.mixed;have z3:=L.z3;have v3:=L.v3;have z5:=L.z5;have v5:=L.v5;have z37:=L.z37;have v37:=L.v37
 go_enter Tryz.func70,Tryz.ntmps70
 go_wp2
 rw[run_callFunc_extern Tryz.func123 ae ae ae (e:=Extern.BytealgIndexByte.indexByte) ae,Lib.run_indexByteNil w 0 cap cv]
 simp only[Result.andThen]
 rw[Oper.upon_value]
 go_wp2
 go_ret
 exact⟨rfl,rfl⟩
theorem ET(l:Bs)(c:UInt8):ai E 70 [aU l,.v (.int .u8 c.toNat)] (fun r t=>r=i64 (Lib.indexByte l c)∧t=[]):=by
 intro w im vs hok hg him hpw
 obtain⟨hn,hp⟩:=hpw
 match vs,hn with
 |[v0,v1],_=>
  have h0:=hp 0 _ v0 rfl rfl
  have h1:=hp 1 _ v1 rfl rfl
  cases h1
  have fin:∀(z:Int),z=Lib.indexByte l c→∀(e:Ending) (w':World),(e= .returned (.int .i64 z)∧w'=w)→∃v r tks im',e= .returned v∧Go.az.Below E.dr w.heap.size w w'∧im.le im'∧(∀(b o:Nat),b<w.heap.size→im' b o=im b o)∧
   (∀(b o:Nat) (x:Value),im' b o=some x→w'.cell? ⟨b,o,none⟩=some x)∧km im' w.heap.size w' tks∧VR ⟨[],tks,im'⟩ r v∧(r=i64 (Lib.indexByte l c)∧tks.map (·.tail)=[]):=by
   rintro z rfl e w' ⟨rfl,rfl⟩
   exact⟨_,_,[],im,rfl,kb (Go.RowKit.Below.refl _ _),.refl _,fun _ _ _=>rfl,him,⟨by simp,by simp⟩,.base (.v _),rfl,rfl⟩
  obtain⟨a,cap,rfl,hcap,hes⟩:=h0.fk
  cases a with
  |none=>
   have hl:l=[]:=by
    rcases hes with h|⟨b,o,h,_⟩
    ·simpa using h
    ·cases h
   subst hl
   exact(Qp cap _ w).mono fun e w' h=>fin _ rfl e w' h
  |some a=>
   refine(Tryz.bytes_IndexByte_at a (l.map u8).length cap (l.map fun b=>(b.toNat:Int)) c.toNat w aB ?_).mono fun e w' h=>fin _ ?_ e w' h
   ·intro i hi
    rcases hes with h|⟨b,o,h,hk,cv,hm,h1,hv⟩
    ·rw[h] at hi;simp at hi
    ·cases h
     have hi':i<l.length:=by simpa using hi
     have hx:l[i]?=some l[i]:=List.getElem?_eq_getElem hi'
     have he:(l.map u8)[i]?=some (u8 l[i]):=by rw[List.getElem?_map,hx];rfl
     have h2:=hm i _ 0 _ he rfl
     have h3:=hv i _ 0 _ he rfl
     have h4:=him _ _ _ h2
     have h5:cv i 0= .int .u8 (l[i].toNat:Nat):=by
      generalize cv i 0=z at h3
      cases h3;rfl
     rw[h5] at h4
     have h6:(l.map fun b=>(b.toNat:Int)).getD i 0=(l[i].toNat:Int):=by
      rw[List.getD_eq_getElem?_getD,List.getElem?_map,hx];rfl
     rw[h6]
     simp only[Nat.mul_one,Nat.add_zero] at h4
     simp only[Addr.add]
     split
     ·rename_i h0;subst h0;simpa using h4
     ·exact h4
   ·have:Lib.bytesOf (l.map fun b=>(b.toNat:Int))=l:=by
     unfold Lib.bytesOf
     rw[List.map_map]
     conv=>rhs;rw[←List.map_id l]
     apply List.map_congr_left
     intro b _
     simp
    rw[this];simp
theorem xU(a b:List UInt8):ai E 36 [aU a,aU b] (fun r t=>r=bl (decide (a=b))∧t=[]):=by
 refine ai.aC (n:=10) (rs:=[.tmp 4]) Tryz.func36 rfl Tryz.ntmps36 rfl ?_
 repeat'(first
 |refine aa.ah fun K hK=>?_
 |(refine aa.region ?_;simp only[go_sem])
 |(refine hK _ ?_;clear hK K)
 |(
  refine aa.ret ?_
  refine aM.is ?_;simp only[go_sem,aI,aH,aG,aK,aJ,aL]<;>(simp[])))
end Go.Proofs.YthoonfpkfdjhiaaGreatDoor
end
section
namespace Go.Proofs.YthoonfpkfdjhiaaGreatDoor
open Go Go.az Go.RowKit Go.Fld
theorem Pc(s:Bs)(hs:s.length<4294967281):ai E 71 [str s] (fun r t=>r= .ax [jT (gZ s).1,bl (gZ s).2]∧t=[]):=by
 refine ai.aC (n:=41) (rs:=[.cell 2 83,.tmp 3]) Tryz.func71 rfl Tryz.ntmps71 rfl ?_
 refine aa.ah fun K1 hK1=>?_
 refine aa.region ?_
 simp only[go_sem]
 refine hK1 _ ?_;clear hK1 K1
 refine aa.ah fun K2 hK2=>?_
 refine aa.region ?_
 simp only[go_sem]
 repeat'((refine ak.of (Xw _ 61 ab) ae rfl ?_;rintro r t ⟨rfl,rfl⟩<;>rcases hc:cO 61 s with _|⟨a,v⟩<;>simp only[hc]<;>simp only[go_sem]))
 all_goals(
  refine hK2 _ ?_;clear hK2 K2
  refine aa.ah fun K3 hK3=>?_
  refine aa.ah fun K4 hK4=>?_
  refine aa.region ?_
  simp only[go_sem]
  refine hK4 _ ?_;clear hK4 K4
  refine aa.cond rfl (fun c17=>?_) (fun c17=>?_)
  ·first|exact Bool.noConfusion c17|(
    try simp only[dD] at c17
    refine aa.ah fun K5 hK5=>?_
    refine aa.region ?_
    simp only[go_sem]
    refine hK5 _ ?_;clear hK5 K5
    refine aa.ret ?_
    try simp only[go_sem]
    clear hK3 K3
    (exact⟨[],.ax [.agg [.v _,.v _],.v _],rfl,⟨⟨rfl,rfl,trivial⟩,rfl,trivial⟩,by rw[BC hc],rfl⟩))
  ·first|exact Bool.noConfusion c17|(
    try simp only[dD] at c17
    refine aa.skip ?_
    refine hK3 _ ?_;clear hK3 K3
    refine aa.ah fun K6 hK6=>?_
    refine aa.region ?_
    simp only[go_sem]
    repeat'((refine ak.one (AG _) ae rfl ?_;simp only[go_sem]))
    refine hK6 _ ?_;clear hK6 K6
    refine aa.ah fun K7 hK7=>?_
    refine aa.ah fun K8 hK8=>?_
    refine aa.region ?_
    simp only[go_sem]
    repeat'(first|(refine aP.df (fun h=>?_) (fun h=>?_)<;>simp only[h,go_sem]<;>try simp only[dD] at h)|(refine aP.split (fun h=>?_) (fun h=>?_)<;>simp only[h,go_sem]<;>try simp only[dD] at h))
    all_goals(
     refine hK8 _ ?_;clear hK8 K8
     refine aa.cond rfl (fun c33=>?_) (fun c33=>?_)
     ·(
       try simp only[dD] at c33
       refine aa.ah fun K9 hK9=>?_
       refine aa.region ?_
       simp only[go_sem]
       refine hK9 _ ?_;clear hK9 K9
       refine aa.ret ?_
       try simp only[go_sem]
       clear hK7 K7
       (exact⟨[],.ax [.agg [.v _,.v _],.v _],rfl,⟨⟨rfl,rfl,trivial⟩,rfl,trivial⟩,by rw[BB hc ab],rfl⟩))
     ·first|exact Bool.noConfusion c33|(
       try simp only[dD] at c33
       refine aa.skip ?_
       refine hK7 _ ?_;clear hK7 K7
       refine aa.ah fun K10 hK10=>?_
       refine aa.region ?_
       simp only[go_sem]
       refine hK10 _ ?_;clear hK10 K10
       refine aa.ah fun K11 hK11=>?_
       refine aa.bA [0,1,2,3,4] [] ae ae rfl ?_
       simp only[go_sem]
       repeat'((refine ak.one (zi (_,_)) ae rfl ?_;simp only[go_sem]))
       refine hK11 _ ?_;clear hK11 K11
       refine aa.ret ?_
       try simp only[go_sem]
       (exact⟨[],.ax [.agg [.v _,.v _],.v _],rfl,⟨⟨rfl,rfl,trivial⟩,rfl,trivial⟩,by rw[BA hc ab],rfl⟩)))))
theorem zg(b:Bs):ai E 34 [aU b] (fun r t=>r= .ax [.sl (some 0) 2 ((bH b).1.map jT),i64 (bH b).2]∧t=[(bH b).1.length]):=by
 refine ai.aC (n:=40) (rs:=[.tmp 2,.tmp 3]) Tryz.func34 rfl Tryz.ntmps34 rfl ?_
 refine aa.ah fun K1 hK1=>?_
 refine aa.region ?_
 simp only[go_sem]
 refine hK1 _ ?_;clear hK1 K1
 refine aa.ah fun K2 hK2=>?_
 refine aa.ah fun K3 hK3=>?_
 refine aa.region ?_
 simp only[go_sem]
 repeat'(((with_reducible refine And.intro ?_ ?_);(focus(((simp;done))));(try simp only[hb,go_sem])))
 refine hK3 _ ?_;clear hK3 K3
 refine aa.cond rfl (fun c10=>?_) (fun c10=>?_)
 ·(
   try simp only[dD] at c10
   refine aa.ah fun K4 hK4=>?_
   refine aa.region ?_
   simp only[go_sem]
   refine hK4 _ ?_;clear hK4 K4
   refine aa.ret ?_
   try simp only[go_sem]
   clear hK2 K2
   (exact⟨[(false,2)],.ax [.sl (some 0) 2 [],.v _],rfl,⟨rfl,rfl,trivial⟩,by rw[Bd ab];rfl,by rw[Bd ab];rfl⟩))
 ·(
   try simp only[dD] at c10
   refine aa.skip ?_
   refine hK2 _ ?_;clear hK2 K2
   refine aa.ah fun K5 hK5=>?_
   refine aa.region ?_
   simp only[go_sem]
   refine hK5 _ ?_;clear hK5 K5
   refine aa.ah fun K6 hK6=>?_
   refine aa.block ?_
   refine aa.pE 4 2 rfl ?_
   simp only[go_sem]
   refine aa.vB (ι:=List Fld.Fd×Bs) [2,3,5,6,7,11,12,13,14,15,16,17,18,19,20,21,22,23,24,25,26,27,28,29,30,31,32,33,34,35,36,37,38] (fun⟨acc,rest⟩=>[(0,aU rest),(4,.sl (some 0) 2 (acc.map jT))]) (fun⟨acc,rest⟩=>[]) (fun⟨acc,rest⟩=>[acc.length]) (fun⟨acc,rest⟩=>dE [] b=dE acc rest∧acc.length≤100∧rest.length≤65536) (fun⟨acc,rest⟩=>rest.length) (([],b)) ?_ ?_ ?_
   ·(try simp only[go_sem]);try(simp;done)
   ·exact⟨rfl,by simp,by omega⟩
   rintro⟨acc,rest⟩ ⟨h1,h2,h3⟩
   simp only[go_sem]
   refine aa.ah fun K7 hK7=>?_
   refine aa.ah fun K8 hK8=>?_
   refine aa.region ?_
   simp only[go_sem]
   repeat'(((with_reducible refine And.intro ?_ ?_);(focus(((simp;done))));(try simp only[hb,go_sem])))
   refine hK8 _ ?_;clear hK8 K8
   refine aa.cond rfl (fun c13=>?_) (fun c13=>?_)
   ·(
     try simp only[dD] at c13
     refine aa.skip ?_
     refine hK7 _ ?_;clear hK7 K7
     refine aa.block ?_
     refine aa.ah fun K9 hK9=>?_
     refine aa.region ?_
     simp only[go_sem]
     repeat'((refine ak.one (ET _ 1) ae rfl ?_;simp only[go_sem]))
     have hi:=qP (c:=1) (l:=rest)
     rcases hc:cO 1 rest with _|⟨a,v⟩<;>(try simp only[hc] at hi)<;>(try simp only[hi])
     all_goals(
      refine hK9 _ ?_;clear hK9 K9
      refine aa.ah fun K10 hK10=>?_
      refine aa.ah fun K11 hK11=>?_
      refine aa.region ?_
      simp only[go_sem]
      refine hK11 _ ?_;clear hK11 K11
      refine aa.cond rfl (fun c17=>?_) (fun c17=>?_)
      ·first|exact Bool.noConfusion c17|(
        try simp only[dD] at c17
        refine aa.ah fun K12 hK12=>?_
        refine aa.region ?_
        simp only[go_sem]
        refine hK12 _ ?_;clear hK12 K12
        refine aa.ret ?_
        try simp only[go_sem]
        clear hK10 K10 hK6 K6
        (exact⟨[(false,2)],.ax [.sl (some 0) 2 [],.v _],rfl,⟨rfl,rfl,trivial⟩,by rw[Bf ab h1 ab hc];rfl,by rw[Bf ab h1 ab hc];rfl⟩))
      ·first|exact Bool.noConfusion c17|(
        try simp only[dD] at c17
        refine aa.skip ?_
        refine hK10 _ ?_;clear hK10 K10
        refine aa.ah fun K13 hK13=>?_
        obtain⟨ht,hd,hn⟩:=LB hc
        refine aa.region ?_
        simp only[go_sem]
        repeat'(first|(refine ak.one (Pc _ (by simp only[List.length_take];omega)) ae rfl ?_;simp only[go_sem])|((with_reducible refine And.intro ?_ ?_);(focus((omega)));(try simp only[hb,go_sem])))
        refine hK13 _ ?_;clear hK13 K13
        refine aa.ah fun K14 hK14=>?_
        refine aa.ah fun K15 hK15=>?_
        refine aa.region ?_
        simp only[go_sem]
        refine hK15 _ ?_;clear hK15 K15
        refine aa.cond rfl (fun fg=>?_) (fun fg=>?_)
        ·(
          try simp only[dD] at fg
          refine aa.ah fun K16 hK16=>?_
          refine aa.region ?_
          simp only[go_sem]
          refine hK16 _ ?_;clear hK16 K16
          refine aa.ret ?_
          try simp only[go_sem]
          clear hK14 K14 hK6 K6
          (exact⟨[(false,2)],.ax [.sl (some 0) 2 [],.v _],rfl,⟨rfl,rfl,trivial⟩,by rw[Bc ab h1 hc (By (by rw[ht] at fg;exact fg))];rfl,by rw[Bc ab h1 hc (By (by rw[ht] at fg;exact fg))];rfl⟩))
        ·(
          try simp only[dD] at fg
          refine aa.skip ?_
          refine hK14 _ ?_;clear hK14 K14
          refine aa.ah fun K17 hK17=>?_
          refine aa.ah fun K18 hK18=>?_
          refine aa.region ?_
          simp only[go_sem]
          repeat'(((with_reducible refine And.intro ?_ ?_);(focus(((simp;done))));(try simp only[hb,go_sem])))
          refine hK18 _ ?_;clear hK18 K18
          refine aa.cond rfl (fun c30=>?_) (fun c30=>?_)
          ·(
            try simp only[dD] at c30
            refine aa.ah fun K19 hK19=>?_
            refine aa.region ?_
            simp only[go_sem]
            refine hK19 _ ?_;clear hK19 K19
            refine aa.ret ?_
            try simp only[go_sem]
            clear hK17 K17 hK6 K6
            (exact⟨[(false,2)],.ax [.sl (some 0) 2 [],.v _],rfl,⟨rfl,rfl,trivial⟩,by rw[Be ab h1 hc (wh (by rw[ht] at fg;exact fg)) ab];rfl,by rw[Be ab h1 hc (wh (by rw[ht] at fg;exact fg)) ab];rfl⟩))
          ·(
            try simp only[dD] at c30
            refine aa.skip ?_
            refine hK17 _ ?_;clear hK17 K17
            refine aa.ah fun K20 hK20=>?_
            refine aa.region ?_
            simp only[go_sem]
            repeat'(((with_reducible refine And.intro ?_ ?_);(focus((omega)));(try simp only[hb,go_sem])))
            refine hK20 _ ?_;clear hK20 K20
            refine aa.region ?_
            simp only[go_sem]
            repeat'(((with_reducible refine And.intro ?_ ?_);(focus((first|omega|(rw[aN ab ab];omega))));(try simp only[hb,go_sem])))
            clear hK6 K6
            refine⟨(acc++[(gZ a).1],v),?_,?_,?_⟩
            ·rw[aN ab ab,ht]
             refine⟨⟨.inr ?_,.inr ?_⟩,?_⟩
             ·show aU v=_;rw[show((a.length:Int)+1).toNat=a.length+1 from by omega,hd]
             ·simp
             ·simp
            ·exact⟨VL h1 hc (wh (by rw[ht] at fg;exact fg)) ab,by simp;omega,(show v.length≤65536 by omega)⟩
            ·show v.length<rest.length;omega)))))
   ·(
     try simp only[dD] at c13
     refine aa.exit ?_
     simp only[go_sem]
     clear hK7 K7
     refine hK6 _ ?_;clear hK6 K6
     refine aa.ah fun K21 hK21=>?_
     refine aa.region ?_
     simp only[go_sem]
     refine hK21 _ ?_;clear hK21 K21
     refine aa.ret ?_
     try simp only[go_sem]
     (exact⟨[(true,0)],.ax [.sl (some 0) 2 _,.v _],rfl,⟨⟨rfl,rfl,rfl⟩,rfl,trivial⟩,by rw[Go.Fld.tc ab h1 ab],by rw[Go.Fld.tc ab h1 ab];rfl⟩)))
theorem uP(l:List Fld.Fd)(tag:Int)(hl:l.length≤9223372036854775807):ai E 73 [kz l,i64 tag] (fun r t=>r= .ax [str (bN l tag).1,bl (bN l tag).2]∧t=[]):=by
 refine ai.aC (n:=21) (rs:=[.tmp 4,.tmp 5]) Tryz.func73 rfl Tryz.ntmps73 rfl ?_
 refine aa.ah fun K1 hK1=>?_
 refine aa.region ?_
 simp only[go_sem]
 refine hK1 _ ?_;clear hK1 K1
 refine aa.ah fun K2 hK2=>?_
 refine aa.ah fun K3 hK3=>?_
 refine aa.region ?_
 simp only[go_sem]
 repeat'(((with_reducible refine And.intro ?_ ?_);(focus(((simp;done))));(try simp only[hb,go_sem])))
 refine hK3 _ ?_;clear hK3 K3
 refine aa.block ?_
 refine aa.mK (ι:=Nat) [4,5,7,11,12,13,14,15,16,17,18,19,20] (fun(i:Nat)=>[(10,i64 i)]) (fun(i:Nat)=>i≤l.length∧bN l tag=bN (l.drop i) tag) (fun(i:Nat)=>l.length-i) (0) ?_ ?_ ?_
 ·(try simp only[go_sem]);try(simp;done)
 ·exact⟨by omega,rfl⟩
 rintro i ⟨h1,h2⟩
 simp only[go_sem]
 refine aa.ah fun K4 hK4=>?_
 refine aa.region ?_
 simp only[go_sem]
 refine hK4 _ ?_;clear hK4 K4
 refine aa.ah fun K5 hK5=>?_
 refine aa.cond rfl (fun c11=>?_) (fun c11=>?_)
 ·(
   try simp only[dD] at c11
   refine aa.skip ?_
   refine hK5 _ ?_;clear hK5 K5
   refine aa.ah fun K6 hK6=>?_
   refine aa.block ?_
   refine aa.ah fun K7 hK7=>?_
   refine aa.region ?_
   simp only[go_sem]
   repeat'(((refine aQ.nth ?_ (fun b hb=>?_));(focus((omega)));(try simp only[hb,go_sem])))
   refine hK7 _ ?_;clear hK7 K7
   refine aa.ah fun K8 hK8=>?_
   refine aa.region ?_
   simp only[go_sem]
   refine hK8 _ ?_;clear hK8 K8
   refine aa.cond rfl (fun c17=>?_) (fun c17=>?_)
   ·(
     try simp only[dD] at c17
     refine aa.ah fun K9 hK9=>?_
     refine aa.region ?_
     simp only[go_sem]
     refine hK9 _ ?_;clear hK9 K9
     refine aa.ret ?_
     try simp only[go_sem]
     clear hK6 K6 hK2 K2
     (exact⟨[],.ax [.v _,.v _],rfl,⟨rfl,rfl,trivial⟩,by rw[PQ h2 hb c17],rfl⟩))
   ·(
     try simp only[dD] at c17
     refine aa.skip ?_
     refine hK6 _ ?_;clear hK6 K6
     refine aa.region ?_
     simp only[go_sem]
     clear hK2 K2
     refine⟨i+1,?_,?_,?_⟩
     ·(try simp only[go_sem]);(try rw[aN ab ab]);simp
     ·exact⟨by omega,PR h2 hb af⟩
     ·omega))
 ·(
   try simp only[dD] at c11
   refine aa.exit ?_
   simp only[go_sem]
   clear hK5 K5
   refine hK2 _ ?_;clear hK2 K2
   refine aa.ah fun K10 hK10=>?_
   refine aa.region ?_
   simp only[go_sem]
   refine hK10 _ ?_;clear hK10 K10
   refine aa.ret ?_
   try simp only[go_sem]
   (exact⟨[],.ax [.v _,.v _],rfl,⟨rfl,rfl,trivial⟩,by rw[PO h2 c11],rfl⟩))
theorem ze(l:List Fld.Fd)(tag:Int)(hl:l.length≤9223372036854775807):ai E 75 [kz l,i64 tag] (fun r t=>r= .ax [i64 (lW l tag).1,bl (lW l tag).2]∧t=[]):=by
 refine ai.aC (n:=26) (rs:=[.tmp 4,.tmp 5]) Tryz.func75 rfl Tryz.ntmps75 rfl ?_
 refine aa.ah fun K1 hK1=>?_
 refine aa.region ?_
 simp only[go_sem]
 refine hK1 _ ?_;clear hK1 K1
 refine aa.ah fun K2 hK2=>?_
 refine aa.region ?_
 simp only[go_sem]
 repeat'((refine ak.one (uP _ _ ab) ae rfl ?_;simp only[go_sem]))
 refine hK2 _ ?_;clear hK2 K2
 refine aa.ah fun K3 hK3=>?_
 refine aa.ah fun K4 hK4=>?_
 refine aa.region ?_
 simp only[go_sem]
 refine hK4 _ ?_;clear hK4 K4
 refine aa.cond rfl (fun c17=>?_) (fun c17=>?_)
 ·(
   try simp only[dD] at c17
   refine aa.ah fun K5 hK5=>?_
   refine aa.region ?_
   simp only[go_sem]
   refine hK5 _ ?_;clear hK5 K5
   refine aa.ret ?_
   try simp only[go_sem]
   clear hK3 K3
   (exact⟨[],.ax [.v _,.v _],rfl,⟨rfl,rfl,trivial⟩,by unfold lW;rw[if_neg (by rw[(by assumption:(bN l tag).2=false)];simp)],rfl⟩))
 ·(
   try simp only[dD] at c17
   refine aa.skip ?_
   refine hK3 _ ?_;clear hK3 K3
   refine aa.ah fun K6 hK6=>?_
   refine aa.region ?_
   simp only[go_sem]
   repeat'((refine ak.one (AG _) ae rfl ?_;simp only[go_sem]))
   refine hK6 _ ?_;clear hK6 K6
   refine aa.ah fun K7 hK7=>?_
   refine aa.ah fun K8 hK8=>?_
   refine aa.region ?_
   simp only[go_sem]
   refine hK8 _ ?_;clear hK8 K8
   refine aa.cond rfl (fun c24=>?_) (fun c24=>?_)
   ·(
     try simp only[dD] at c24
     refine aa.ah fun K9 hK9=>?_
     refine aa.region ?_
     simp only[go_sem]
     refine hK9 _ ?_;clear hK9 K9
     refine aa.ret ?_
     try simp only[go_sem]
     clear hK7 K7
     (exact⟨[],.ax [.v _,.v _],rfl,⟨rfl,rfl,trivial⟩,by unfold lW;rw[if_pos c17,if_neg c24],rfl⟩))
   ·(
     try simp only[dD] at c24
     refine aa.skip ?_
     refine hK7 _ ?_;clear hK7 K7
     refine aa.ah fun K10 hK10=>?_
     refine aa.region ?_
     simp only[go_sem]
     refine hK10 _ ?_;clear hK10 K10
     refine aa.ret ?_
     try simp only[go_sem]
     (exact⟨[],.ax [.v _,.v _],rfl,⟨rfl,rfl,trivial⟩,by unfold lW;rw[if_pos c17,if_pos c24],rfl⟩)))
end Go.Proofs.YthoonfpkfdjhiaaGreatDoor
end
section
namespace Go.Proofs.YthoonfpkfdjhiaaGreatDoor
open Go Go.az Go.RowKit Go.Bk Go.Msg
end Go.Proofs.YthoonfpkfdjhiaaGreatDoor
end
section
namespace Go.Proofs.YthoonfpkfdjhiaaGreatDoor
open Go Go.az Go.RowKit Go.Bk Go.Msg
theorem Qx(c:UInt8):∀l:List UInt8,-1≤Lib.indexByte l c∧Lib.indexByte l c<l.length:=by
 intro l
 induction l with
 |nil=>unfold Lib.indexByte;exact⟨by simp,by simp⟩
 |cons b l ih=>
  unfold Lib.indexByte
  simp only[List.length_cons]
  split
  ·omega
  ·split<;>omega
theorem Ry{s:List UInt8}{b:UInt8}(h:(s.length:Int)=1)(hb:s[0]?=some b):IntKind.i64.wrap (Lib.indexByte px b+1)=sJ s:=by
 match s,h with
 |[c],_=>
  simp at hb;subst hb
  have:=Qx c px
  have h7:px.length=7:=rfl
  rw[aN ab ab];rfl
 |[],h=>simp at h
 |_::_::_,h=>simp at h;omega
theorem Rz{s:List UInt8}(h:¬(s.length:Int)=1):sJ s=0:=by
 match s,h with
 |[_],h=>exact absurd rfl h
 |[],h=>rfl
 |_::_::_,h=>rfl
theorem TK(l:List Fld.Fd)(hl:l.length≤1000):ai E 165 [kz l] (fun r t=>r=qW (lI l)∧t=[]):=by
 refine ai.aC (n:=83) (rs:=[.cell 2 78]) Tryz.func165 rfl Tryz.ntmps165 rfl ?_
 repeat'(first
 |refine aa.ah fun K hK=>?_
 |(refine ak.one (wD px b) ae rfl ?_;simp only[go_sem])
 |(refine ak.one (uP l _ ab) ae rfl ?_;simp only[go_sem])
 |(refine ak.one (ze l _ ab) ae rfl ?_;simp only[go_sem])
 |(refine al.call (rs:=[.tmp 3]) Tryz.func201 rfl Tryz.ntmps201 rfl ae rfl rfl ?_;simp only[go_sem])
 |(refine al.call (rs:=[.tmp 3]) Tryz.func202 rfl Tryz.ntmps202 rfl ae rfl rfl ?_;simp only[go_sem])
 |(refine aa.here 3 9 10 rfl ?_;refine aa.aX ?_;refine al.at 10 1 rfl ?_;simp only[go_sem])
 |(refine al.at 8 1 rfl ?_;simp only[go_sem])
 |(refine al.at 6 1 rfl ?_;simp only[go_sem])
 |(refine aa.here 4 17 3 rfl ?_;refine aa.aX ?_;refine al.at 3 1 rfl ?_;simp only[go_sem])
 |(refine aa.here 9 31 4 rfl ?_;refine aa.aX ?_;refine al.at 4 1 rfl ?_;simp only[go_sem])
 |(refine aa.here 12 37 4 rfl ?_;refine aa.aX ?_;refine al.at 4 1 rfl ?_;simp only[go_sem])
 |(refine aa.here 14 42 8 rfl ?_;refine aa.aX ?_;refine al.at 8 1 rfl ?_;simp only[go_sem])
 |(refine aa.here 16 50 9 rfl ?_;refine aa.aX ?_;refine al.at 9 1 rfl ?_;simp only[go_sem])
 |(refine al.at 7 1 rfl ?_;simp only[go_sem])
 |(refine aa.here 18 59 24 rfl ?_;refine aa.aX ?_;refine al.at 24 1 rfl ?_;simp only[go_sem])
 |(refine al.at 22 1 rfl ?_;simp only[go_sem])
 |(refine al.at 20 1 rfl ?_;simp only[go_sem])
 |(refine al.at 18 1 rfl ?_;simp only[go_sem])
 |(refine al.at 16 1 rfl ?_;simp only[go_sem])
 |(refine al.at 14 1 rfl ?_;simp only[go_sem])
 |(refine al.at 12 2 rfl ?_;simp only[go_sem])
 |(refine al.at 9 1 rfl ?_;simp only[go_sem])
 |(refine al.at 5 1 rfl ?_;simp only[go_sem])
 |(refine aa.region ?_;simp only[go_sem])
 |(refine hK _ ?_;clear hK K)
 |refine aa.block ?_
 |refine aa.cond rfl (fun c=>?_) (fun c=>?_)<;>first|exact Bool.noConfusion c|(try simp only[dD] at c)
 |refine aa.skip ?_
 |((refine aQ.mN ?_ (fun b hb=>?_));(focus(omega));(try simp only[hb,go_sem]))
 |(
  refine aa.ret ?_
  refine aM.is ?_;simp only[go_sem,aU,aI,aH,aG,aK,aJ,aL]<;>(try((first|(exfalso;omega)|((try clear hK);simp only[Ry (s:=(Fld.bN l 35).1) af hb] at *;(simp_all[lI,tx,nm,pe,aY]<;>first|rfl|exact⟨decide_eq_decide.2 Iff.rfl,decide_eq_decide.2 Iff.rfl⟩);done)|((try clear hK);have hkf:=Rz (s:=(Fld.bN l 35).1) af;(simp_all[lI,tx,nm,pe,aY]<;>(rfl));done)))))
 |(refine aa.ret ?_;refine bV.ret rfl ?_;simp only[go_sem])
 |(refine al.of ?_;simp only[go_sem]))
theorem TO(bs:List UInt8):ai E 126 [aU bs] (fun r t=>r= .ax [qW (kS bs).1,i64 (kS bs).2]∧t=[]):=by
 refine ai.aC (n:=34) (rs:=[.cell 2 78,.tmp 3]) Tryz.func126 rfl Tryz.ntmps126 rfl ?_
 repeat'(first
 |refine aa.ah fun K hK=>?_
 |(refine aa.region ?_;simp only[go_sem])
 |(refine hK _ ?_;clear hK K)
 |refine aa.cond rfl (fun c=>?_) (fun c=>?_)<;>first|exact Bool.noConfusion c|(try simp only[dD] at c)
 |refine aa.skip ?_
 |(refine ak.of (zg _) ae rfl ?_;rintro r t ⟨rfl,rfl⟩;simp only[go_sem])
 |(refine ak.one (TK (Fld.bH bs).1 (by have:=Fld.A5 bs;omega)) ae rfl ?_;simp only[go_sem])
 |(refine ak.one (Ao (lI (Fld.bH bs).1)) ae rfl ?_;simp only[go_sem])
 |(refine ak.one (xU _ _) ae rfl ?_;simp only[go_sem])
 |(refine aP.split (fun h=>?_) (fun h=>?_)<;>simp only[h,go_sem]<;>(try simp only[dD] at h))
 |(
  refine aa.ret ?_
  refine aM.is ?_;simp only[go_sem,aU,aI,aH,aG,aK,aJ,aL]<;>(try((((try clear hK);simp_all[kS,rG,aY];done))))))
end Go.Proofs.YthoonfpkfdjhiaaGreatDoor
end
section
namespace Go.Txt
open Go.Fld Go.Msg
theorem zn{n:Nat}:∀{l:List Fld.Fd} {t:Int},(∀f∈l,f.2.length≤n)→(bN l t).1.length≤n
 |[],_,_=>Nat.zero_le _
 |f::l,t,h=>by
  rw[bN]
  split
  ·exact h f aB
  ·exact zn fun g hg=>h g (by simp[hg])
theorem yV:∀{l:List Fld.Fd} {f:Fld.Fd},f∈l→f.2.length≤(bB l).length
 |[],_,h=>by simp at h
 |g::l,f,h=>by
  rw[bB,List.length_append]
  rcases List.mem_cons.1 h with rfl|h
  ·rw[gm];simp;omega
  ·have:=yV h;omega
theorem Vy{x:List UInt8}(hx:x.length≤4200):(bH x).1.length≤100000∧(tx (bH x).1 9).length≤5000:=by
 refine⟨by have:=A5 x;omega,?_⟩
 by_cases h:(bH x).2=0
 ·have e:bH x=dE [] x:=by unfold bH;rw[if_neg ab]
  have e2:dE [] x=((bH x).1,0):=by rw[←e];exact Prod.ext rfl h
  obtain⟨l,h1,h2,_,_⟩:=VA x.length x [] _ (Nat.le_refl _) aB e2
  rw[List.nil_append] at h1
  have:=zn (l:=(bH x).1) (t:=9) (n:=x.length) fun f hf=>by rw[h2];rw[h1] at hf;exact yV hf
  unfold tx;omega
 ·unfold tx;rw[Fld.A7 h];exact Nat.zero_le _
end Go.Txt
end
section
namespace Go.Proofs.YthoonfpkfdjhiaaGreatDoor
open Go Go.az Go.RowKit Go.Bk Go.Msg Go.Txt
theorem Mn{s:List UInt8}(h:¬(kS (s.map la)).2=0):kx s=aY:=by unfold kx;rw[if_neg h]
theorem Mo{s:List UInt8}(h:(kS (s.map la)).2=0):kx s=(kS (s.map la)).1.exec:=by unfold kx;rw[if_pos h]
theorem En{l:List Fld.Fd}(h:nm l 1=1):dI l=⟨1,nm l 2,⟨tx l 3,tx l 4,tx l 5,decide (tx l 6=[49]),nm l 7,nm l 8,0,false⟩,[],aY,0,false,Txt.bE⟩:=by rw[fO h];simp[fw]
theorem Eo{l:List Fld.Fd}(h:nm l 1=2):dI l=⟨2,nm l 2,⟨tx l 4,[],[],false,nm l 7,nm l 8,0,false⟩,tx l 3,aY,0,false,Txt.bE⟩:=by rw[fO h];simp[fw]
theorem Ep{l:List Fld.Fd}(h:nm l 1=3):dI l=⟨3,nm l 2,Txt.bu,[],kx (tx l 9),0,false,Txt.bE⟩:=by rw[fO h];simp[fw]
theorem Er{l:List Fld.Fd}(h:nm l 1=4):dI l=⟨4,0,Txt.bu,[],aY,nm l 10,false,Txt.bE⟩:=by rw[fO h];simp[fw]
theorem Es{l:List Fld.Fd}(h:nm l 1=5):dI l=⟨5,0,Txt.bu,[],aY,0,decide (tx l 11=[49]),Txt.bE⟩:=by rw[fO h];simp[fw]
theorem Et{l:List Fld.Fd}(h:nm l 1=6):dI l=⟨6,nm l 2,Txt.bu,[],aY,0,decide (tx l 11=[49]),Txt.bE⟩:=by rw[fO h];simp[fw]
theorem Eu{l:List Fld.Fd}(h:nm l 1=7):dI l=⟨7,nm l 2,Txt.bu,[],aY,0,false,Txt.bE⟩:=by rw[fO h];simp[fw]
theorem Ev{l:List Fld.Fd}(h:nm l 1=8):dI l=⟨8,0,Txt.bu,[],aY,0,false,⟨tx l 4,tx l 5,nm l 12,nm l 13,nm l 7,nm l 8⟩⟩:=by rw[fO h];simp[fw]
theorem Em{l:List Fld.Fd}(h:¬nm l 1=1∧¬nm l 1=2∧¬nm l 1=3∧¬nm l 1=4∧¬nm l 1=5∧¬nm l 1=6∧¬nm l 1=7∧¬nm l 1=8):dI l=⟨nm l 1,0,Txt.bu,[],aY,0,false,Txt.bE⟩:=by
 obtain⟨h1,h2,h3,h4,h5,h6,h7,h8⟩:=h
 rw[fO rfl];simp[fw,h1,h2,h3,h4,h5,h6,h7,h8]
theorem Wh{x:List UInt8}(h:¬(Fld.bH x).2=0):dG x=(jJ,3):=by unfold dG;rw[if_neg h]
theorem Bz{x:List UInt8}(h:(Fld.bH x).2=0)(h2:¬(ct (dI (Fld.bH x).1)).2=0∨¬(ct (dI (Fld.bH x).1)).1=x):dG x=(jJ,3):=by
 unfold dG;rw[if_pos h,if_neg]
 intro e
 rw[e] at h2
 rcases h2 with h2|h2<;>exact h2 rfl
theorem Wi{x:List UInt8}(h:(Fld.bH x).2=0)(h2:(ct (dI (Fld.bH x).1)).2=0)(h3:(ct (dI (Fld.bH x).1)).1=x):dG x=(dI (Fld.bH x).1,0):=by
 unfold dG;rw[if_pos h,if_pos (Prod.ext h3 h2)]
theorem R0(l:List Fld.Fd)(tag:Int)(hl:l.length≤100000):ai E 72 [i64 tag,.bR [kz l]] (fun r t=>r=str (tx l tag)∧t=[]):=by
 refine ai.aC (n:=13) (rs:=[.tmp 3]) Tryz.func72 rfl Tryz.ntmps72 rfl ?_
 repeat'(first
 |refine aa.ah fun K hK=>?_
 |(refine aa.region ?_;simp only[go_sem])
 |(refine hK _ ?_;clear hK K)
 |(refine ak.one (uP l tag ab) ae rfl ?_;simp only[go_sem])
 |(
  refine aa.ret ?_
  refine aM.is ?_;simp only[go_sem,aI,aH,aG,aK,aJ,aL]<;>(rfl)))
theorem Rg(l:List Fld.Fd)(tag:Int)(hl:l.length≤100000):ai E 74 [i64 tag,.bR [kz l]] (fun r t=>r=i64 (nm l tag)∧t=[]):=by
 refine ai.aC (n:=13) (rs:=[.tmp 3]) Tryz.func74 rfl Tryz.ntmps74 rfl ?_
 repeat'(first
 |refine aa.ah fun K hK=>?_
 |(refine aa.region ?_;simp only[go_sem])
 |(refine hK _ ?_;clear hK K)
 |(refine ak.one (ze l tag ab) ae rfl ?_;simp only[go_sem])
 |(
  refine aa.ret ?_
  refine aM.is ?_;simp only[go_sem,aI,aH,aG,aK,aJ,aL]<;>(rfl)))
theorem Rr(s:List UInt8)(hs:s.length≤5000):ai E 76 [str s] (fun r t=>r=ao (kx s)∧t=[]):=by
 refine ai.aC (n:=19) (rs:=[.cell 2 25]) Tryz.func76 rfl Tryz.ntmps76 rfl ?_
 repeat'(first
 |refine aa.ah fun K hK=>?_
 |(refine aa.region ?_;simp only[go_sem])
 |(refine hK _ ?_;clear hK K)
 |refine aa.cond rfl (fun c=>?_) (fun c=>?_)<;>(try simp only[dD] at c)
 |refine aa.skip ?_
 |(refine ak.one (WN s hs) ae rfl ?_;simp only[go_sem])
 |(refine ak.one (TO (s.map la)) ae rfl ?_;simp only[go_sem])
 |(
  refine aa.ret ?_
  refine aM.is ?_;simp only[go_sem,aI,aH,aG,aK,aJ,aL]<;>(first|(rw[Mn af];exact⟨rfl,rfl,rfl,rfl,rfl,rfl,rfl,rfl,rfl,rfl⟩)|(rw[Mo af];exact⟨rfl,rfl,rfl,rfl,rfl,rfl,rfl,rfl,rfl,rfl⟩))))
theorem Rf(l:List Fld.Fd)(hl:l.length≤100000)(h9:(tx l 9).length≤5000):ai E 35 [kz l] (fun r t=>r=jP (dI l)∧t=[]):=by
 refine ai.aC (n:=89) (rs:=[.cell 2 29]) Tryz.func35 rfl Tryz.ntmps35 rfl ?_
 repeat'(first
 |refine aa.ah fun K hK=>?_
 |(
  refine aa.here 1 6 2 rfl ?_
  refine aa.ou 1 0 (.agg [kz l]) rfl rfl (by intro x hx;have hx2:x∈[kz l]:=hx;rw[List.mem_singleton] at hx2;subst hx2;rfl) ?_
  simp only[go_sem]
  refine aa.region ?_;simp only[go_sem])
 |(
  refine aa.here 13 26 16 rfl ?_
  exfalso
  omega)
 |(
  refine aa.here 15 43 4 rfl ?_
  exfalso
  omega)
 |(
  refine aa.here 18 56 5 rfl ?_
  exfalso
  omega)
 |(
  refine aa.here 20 62 4 rfl ?_
  exfalso
  omega)
 |(
  refine aa.here 23 68 5 rfl ?_
  exfalso
  omega)
 |(
  refine aa.here 25 74 15 rfl ?_
  exfalso
  omega)
 |(refine aa.region ?_;simp only[go_sem])
 |(refine hK _ ?_;clear hK K)
 |refine aa.block ?_
 |refine aa.cond rfl (fun c=>?_) (fun c=>?_)<;>(try simp only[dD] at c)
 |refine aa.skip ?_
 |(refine ak.one (Rr (tx l 9) h9) ae rfl ?_;simp only[go_sem])
 |(refine ak.one (R0 l _ hl) ae rfl ?_;simp only[go_sem])
 |(refine ak.one (Rg l _ hl) ae rfl ?_;simp only[go_sem])
 |(
  refine aa.ret ?_
  refine aM.is ?_;simp only[go_sem,aI,aH,aG,aK,aJ,aL]<;>(first|(rw[En af];simp[*,aY,Txt.bu,Txt.bE];done)|(rw[Eo af];simp[*,aY,Txt.bu,Txt.bE];done)|(rw[Ep af];simp[*,aY,Txt.bu,Txt.bE];done)|(rw[Er af];simp[*,aY,Txt.bu,Txt.bE];done)|(rw[Es af];simp[*,aY,Txt.bu,Txt.bE];done)|(rw[Et af];simp[*,aY,Txt.bu,Txt.bE];done)|(rw[Eu af];simp[*,aY,Txt.bu,Txt.bE];done)|(rw[Ev af];simp[*,aY,Txt.bu,Txt.bE];done)|(rw[Em ⟨by omega,by omega,by omega,by omega,by omega,by omega,by omega,by omega⟩];simp[*,aY,Txt.bu,Txt.bE];done))))
theorem RR(x:List UInt8)(hx:x.length≤4200):ai E 11 [aU x] (fun r t=>r= .ax [jP (dG x).1,i64 (dG x).2]∧t=[]):=by
 have hpl:=Vy (x:=x) hx
 refine ai.aC (n:=33) (rs:=[.cell 2 29,.tmp 3]) Tryz.func11 rfl Tryz.ntmps11 rfl ?_
 repeat'(first
 |refine aa.ah fun K hK=>?_
 |(refine aa.region ?_;simp only[go_sem])
 |(refine hK _ ?_;clear hK K)
 |refine aa.cond rfl (fun c=>?_) (fun c=>?_)<;>first|exact Bool.noConfusion c|(try simp only[dD] at c)
 |refine aa.skip ?_
 |(refine ak.of (zg x) ae rfl ?_;rintro r t ⟨rfl,rfl⟩;simp only[go_sem])
 |(refine ak.one (Rf (Fld.bH x).1 hpl.1 hpl.2) ae rfl ?_;simp only[go_sem])
 |(refine ak.one (vk (dI (Fld.bH x).1)) ae rfl ?_;simp only[go_sem])
 |(refine ak.one (xU _ _) ae rfl ?_;simp only[go_sem])
 |(refine aP.split (fun h=>?_) (fun h=>?_)<;>simp only[h,go_sem]<;>(try simp only[dD] at h))
 |(
  refine aa.ret ?_
  refine aM.is ?_;simp only[go_sem,aI,aH,aG,aK,aJ,aL]<;>(first|(rw[Wh af];((simp[jJ,aY,Txt.bu,Txt.bE];done)))|(rw[Bz af (.inl af)];((simp[jJ,aY,Txt.bu,Txt.bE];done)))|(rw[Bz af (.inr af)];((simp[jJ,aY,Txt.bu,Txt.bE];done)))|(rw[Wi af af af];simp;done))))
end Go.Proofs.YthoonfpkfdjhiaaGreatDoor
end
section
namespace Go.Proofs.YthoonfpkfdjhiaaGreatDoor
open Go Go.az Go.RowKit Go.Bk Go.Txt
theorem Q1(d:Kp.Dk)(hd:ef d):ai E 45 [cf d] (fun r t=>r= .ax [fW (Kp.a8 d).1,aU (Kp.a8 d).2.1,.sl none 1 ((Kp.a8 d).2.2.1.map aU),i64 (Kp.a8 d).2.2.2]∧t=[]):=by
 cases hr:Kp.bM d with
 |true=>exact Q8 d hr
 |false=>exact Q7 d hd hr
def dV(g:Gt)(a:Ak):Gt×Int×Int:=if a.kind=4 then((ft g a.now).1,0,(ft g a.now).2) else(g,0,1)
theorem xK{g:Gt}{a:Ak}(h:a.kind=4):dV g a=((ft g a.now).1,0,(ft g a.now).2):=if_pos h
def mU(ask:Gt→Ak→Gt×Int×Int)(n p:Int)(d:Kp.Dk):AV:=
 if(dw n p).2=0 then(if(Kp.a8 d).2.2.2=0 then .ax [gx n p ⟨(Kp.a8 d).1,Kp.dF ask (dw n p).1 (Kp.a8 d).2.2.1⟩,i64 0] else .ax [jf,i64 (Kp.a8 d).2.2.2]) else .ax [jf,i64 (dw n p).2]
theorem Bv{ask:Gt→Ak→Gt×Int×Int}{n p:Int}{d:Kp.Dk}(h:¬(dw n p).2=0):mU ask n p d= .ax [jf,i64 (dw n p).2]:=if_neg h
theorem Wg{ask:Gt→Ak→Gt×Int×Int}{n p:Int}{d:Kp.Dk}(h:(dw n p).2=0)(h2:¬(Kp.a8 d).2.2.2=0):mU ask n p d= .ax [jf,i64 (Kp.a8 d).2.2.2]:=by unfold mU;rw[if_pos h,if_neg h2]
theorem ox{ask:Gt→Ak→Gt×Int×Int}{n p:Int}{d:Kp.Dk}{g:Gt}(h:(dw n p).2=0)(h2:(Kp.a8 d).2.2.2=0)(h3:Kp.dF ask (dw n p).1 (Kp.a8 d).2.2.1=g):mU ask n p d= .ax [gx n p ⟨(Kp.a8 d).1,g⟩,i64 0]:=by unfold mU;rw[if_pos h,if_pos h2,h3]
theorem vZ{l:List (List UInt8)}{i:Nat}{b:List UInt8}(h:l[i]?=some b):l.drop i=b::l.drop (i+1):=by
 obtain⟨hi,rfl⟩:=List.getElem?_eq_some_iff.1 h
 exact List.drop_eq_getElem_cons hi
theorem tc{ask:Gt→Ak→Gt×Int×Int}{g0 g:Gt}{l:List (List UInt8)}{i:Nat}(h:Kp.dF ask g0 l=Kp.dF ask g (l.drop i))(hi:l.length≤i):Kp.dF ask g0 l=g:=by rw[h,List.drop_of_length_le hi];rfl
theorem VK{ask:Gt→Ak→Gt×Int×Int}{g0 g:Gt}{l:List (List UInt8)}{i:Nat}{b:List UInt8}(h:Kp.dF ask g0 l=Kp.dF ask g (l.drop i))(hb:l[i]?=some b)(hr:¬(dG b).2=0):Kp.dF ask g0 l=g:=by rw[h,vZ hb];exact if_neg hr
theorem VG{ask:Gt→Ak→Gt×Int×Int}{g0 g:Gt}{l:List (List UInt8)}{i:Nat}{b:List UInt8}(h:Kp.dF ask g0 l=Kp.dF ask g (l.drop i))(hb:l[i]?=some b)(hr:(dG b).2=0)(ha:¬(ask g (dG b).1).2.2=0):Kp.dF ask g0 l=g:=by rw[h,vZ hb,Kp.dF,if_pos hr,if_neg ha]
theorem VI{ask:Gt→Ak→Gt×Int×Int}{g0 g:Gt}{l:List (List UInt8)}{i:Nat}{b:List UInt8}(h:Kp.dF ask g0 l=Kp.dF ask g (l.drop i))(hb:l[i]?=some b)(hr:(dG b).2=0)(ha:(ask g (dG b).1).2.2=0):Kp.dF ask g0 l=Kp.dF ask (ask g (dG b).1).1 (l.drop (i+1)):=by rw[h,vZ hb,Kp.dF,if_pos hr,if_pos ha]
theorem P2{g:Gt}{no nt:Nat}:∀e∈[bO g],∀z∈e.leaves,z.bw no nt=true:=by
 intro e he z hz
 simp only[List.mem_singleton] at he
 subst he
 simp only[AV.leaves,List.mem_cons,List.not_mem_nil,or_false] at hz
 rcases hz with rfl|rfl|rfl|rfl|rfl<;>rfl
theorem zu{g:Gt}{no nt:Nat}:some [bO g]=none∨∀es,some [bO g]=some es→∀e∈es,∀z∈e.leaves,z.bw no nt=true:= .inr fun es h=>by cases h;exact P2
theorem zR(g:Gt)(a:Ak)(hk:a.kind=4)(hg:dm g):ai E 38 [bO g,jP a] (fun r t=>r= .ax [bO (dV g a).1,i64 (dV g a).2.1,i64 (dV g a).2.2]∧t=[]):=by
 rw[xK hk]
 obtain⟨k,v,o,id,x,nw,on,li⟩:=a
 obtain rfl:k=4:=hk
 refine ai.aC (n:=101) (rs:=[.cell 4 55,.tmp 5,.tmp 6]) Tryz.func38 rfl Tryz.ntmps38 rfl ?_
 repeat'(first
 |refine aa.ah fun K hK=>?_
 |(refine aa.region ?_;simp only[go_sem])
 |(refine hK _ ?_;clear hK K)
 |refine aa.block ?_
 |refine aa.cond rfl (fun c=>?_) (fun c=>?_)<;>first|exact Bool.noConfusion c|(try simp only[dD] at c)
 |(refine ak.one (zw g nw hg) ae rfl ?_;simp only[go_sem])
 |(
  refine aa.ret ?_
  refine aM.is ?_;simp only[go_sem,aI,aH,aG,aK,aJ,aL]<;>(first|fail)))
theorem vo(ask:Gt→Ak→Gt×Int×Int)(P:Gt→Prop)(n p:Int)(d:Kp.Dk)(hd:ef d)(h0:(dw n p).2=0→P (dw n p).1)(hcnt:(Kp.a8 d).2.2.1.length≤1000000)(hlen:∀b∈(Kp.a8 d).2.2.1,b.length≤4200)(hask:∀g b,P g→b∈(Kp.a8 d).2.2.1→(dG b).2=0→ai E 38 [bO g,jP (dG b).1] (fun r t=>r= .ax [bO (ask g (dG b).1).1,i64 (ask g (dG b).1).2.1,i64 (ask g (dG b).1).2.2]∧t=[])∧((ask g (dG b).1).2.2=0→P (ask g (dG b).1).1)):ai E 18 [i64 n,i64 p,cf d] (fun r t=>r=mU ask n p d∧t=[]):=by
 refine ai.aC (n:=69) (rs:=[.cell 6 57,.tmp 7]) Tryz.func18 rfl Tryz.ntmps18 rfl ?_
 repeat'(first
 |refine aa.ah fun K hK=>?_
 |(
  refine aa.here 9 44 3 rfl ?_
  obtain⟨e0,he0⟩:∃b,(Kp.a8 d).2.2.1[i]?=some b:=⟨_,List.getElem?_eq_getElem ab⟩
  refine aa.region ?_;simp only[go_sem,List.getElem?_map,he0,Option.map_some])
 |(refine aa.region ?_;simp only[go_sem])
 |(refine hK _ ?_;clear hK K)
 |refine aa.block ?_
 |refine aa.cond rfl (fun c=>?_) (fun c=>?_)<;>(try simp only[dD] at c)
 |refine aa.skip ?_
 |(refine aa.exit ?_;simp only[go_sem])
 |(refine ak.one (u4 n p) ae rfl ?_;simp only[go_sem])
 |(refine ak.one (Q1 d hd) ae rfl ?_;simp only[go_sem])
 |(refine ak.one (RR e0 (hlen e0 (List.mem_of_getElem? he0))) ae rfl ?_;simp only[go_sem])
 |(refine ak.one ((hask g e0 h2 (List.mem_of_getElem? he0) af).1) ae rfl ?_;simp only[go_sem])
 |((with_reducible refine And.intro ?_ ?_);(focus((simp;done)));(try simp only[hb,go_sem]))
 |(
  refine aa.here 8 43 1 rfl ?_
  refine aa.dR (ι:=Nat×Gt) [14,15,16,17,18,43,44,45,46,47,48,49,50,51,52,53,54,55,56,57,58,59,60,61,62,63] (fun⟨i,g⟩=>[(42,i64 i)]) (fun⟨i,g⟩=>[some [cf d],some [jf],some [bO g],some [fW (Kp.a8 d).1]]) (fun⟨i,g⟩=>[]) (fun⟨i,g⟩=>i≤(Kp.a8 d).2.2.1.length∧P g∧Kp.dF ask (dw n p).1 (Kp.a8 d).2.2.1=Kp.dF ask g ((Kp.a8 d).2.2.1.drop i)) (fun⟨i,g⟩=>(Kp.a8 d).2.2.1.length-i) ((0,(dw n p).1)) ?_ ?_ ?_
  ·(try simp only[go_sem]);(try simp only[go_sem]);(try rw[aN ab ab]);(repeat'(first|refine And.intro ?_ ?_|exact fB|exact rI|exact qR|exact zu))
  ·exact⟨by omega,h0 af,rfl⟩
  rintro⟨i,g⟩ ⟨h1,h2,h3⟩
  simp only[go_sem])
 |(
  refine⟨(i+1,(ask g (dG e0).1).1),?_,?_,?_⟩
  ·(try simp only[go_sem]);(try rw[aN ab ab]);(try simp only[go_sem]);(try rw[aN ab ab]);(repeat'(first|refine And.intro ?_ ?_|exact fB|exact rI|exact qR|exact zu|exact .inr rfl))
  ·exact⟨by show i+1≤_;omega,(hask g e0 h2 (List.mem_of_getElem? he0) af).2 af,VI h3 he0 af af⟩
  ·(try simp only[]);omega)
 |(
  refine aa.ret ?_
  refine aM.is ?_;simp only[go_sem,aI,aH,aG,aK,aJ,aL]<;>(first|(rw[Bv af];(simp only[go_sem,aI,aH,aG,aK,aJ,aL]<;>first|fail))|(rw[Wg af af];(simp only[go_sem,aI,aH,aG,aK,aJ,aL]<;>first|fail))|(rw[ox af af (tc h3 ab)];(simp only[go_sem,aI,aH,aG,aK,aJ,aL]<;>first|fail))|(rw[ox af af (VK h3 he0 af)];(simp only[go_sem,aI,aH,aG,aK,aJ,aL]<;>first|fail))|(rw[ox af af (VG h3 he0 af af)];(simp only[go_sem,aI,aH,aG,aK,aJ,aL]<;>first|fail))))
 |refine aa.fin af ?_)
theorem _root_.Go.az.ai.pw{E:Env}{f:FuncId}{args args2:List AV}{R:AV→List Nat→Prop}(h:ai E f args R)(hp:∀im vs,jk im args2 vs→jk im args vs):ai E f args2 R:=fun w im vs a b c d=>h w im vs a b c (hp im vs d)
theorem Uc{im:Im}{v:Value}(h:aS im (.agg [.aw,.aw,.aw,.aw]) v):aS im (cf Kp.eU) v:=by
 cases h with
 |agg cs vs hn hp=>
  refine .agg _ vs hn fun i c u hc hu=>?_
  match i with
  |0=>cases hc;have:=hp 0 _ u rfl hu;cases this;exact .cI 1 none 0
  |1=>cases hc;have:=hp 1 _ u rfl hu;cases this;exact .cI 1 none 0
  |2=>cases hc;have:=hp 2 _ u rfl hu;cases this;exact .cI 1 none 0
  |3=>cases hc;have:=hp 3 _ u rfl hu;cases this;exact .cI 1 none 0
  |i+4=>simp at hc
theorem RQ(ask:Gt→Ak→Gt×Int×Int)(n p:Int):ai E 18 [i64 n,i64 p,.agg [.aw,.aw,.aw,.aw]] (fun r t=>r=mU ask n p Kp.eU∧t=[]):=by
 have he:(Kp.a8 Kp.eU).2.2.1=[]:=by rw[Kp.pJ]
 have h:=vo ask (fun _=>True) n p Kp.eU ⟨by decide,by decide,by decide,by decide⟩ (fun _=>trivial) (by rw[he];decide) (by rw[he];intro b hb;simp at hb) (by rw[he];intro g b _ hb;simp at hb)
 refine h.pw fun im vs ⟨hn,h⟩=>⟨hn,fun i a v ha hv=>?_⟩
 match i with
 |0=>exact h 0 a v ha hv
 |1=>exact h 1 a v ha hv
 |2=>cases ha;exact Uc (h 2 _ v rfl hv)
 |i+3=>simp at ha
theorem RF(n p:Int)(h:(dw n p).2=0):ai E 13 [i64 n,i64 p] (fun r t=>r= .ax [gx n p ⟨(Kp.a8 Kp.eU).1,(dw n p).1⟩,i64 0]∧t=[]):=by
 have hc:=RQ dV n p
 rw[ox h (by rw[Kp.pJ]) (show Kp.dF dV (dw n p).1 (Kp.a8 Kp.eU).2.2.1=(dw n p).1 by rw[Kp.pJ];rfl)] at hc
 refine ai.aC (n:=12) (rs:=[.cell 4 57,.tmp 5]) Tryz.func13 rfl Tryz.ntmps13 rfl ?_
 repeat'(first
 |refine aa.ah fun K hK=>?_
 |(refine aa.region ?_;simp only[go_sem])
 |(refine hK _ ?_;clear hK K)
 |(refine ak.one (hc) ae rfl ?_;simp only[go_sem])
 |(
  refine aa.ret ?_
  refine aM.is ?_;simp only[go_sem,aI,aH,aG,aK,aJ,aL]<;>(first|fail)))
theorem Td{x y:Lm}(h:x.acc=y.acc∧x.sym=y.sym∧x.long=y.long∧x.short=y.short∧x.au=y.au∧x.value=y.value):x=y:=by
 obtain⟨a,b,c,d,e,f⟩:=x
 obtain⟨h1,h2,h3,h4,h5,h6⟩:=h
 dsimp only at *
 subst h1;subst h2;subst h3;subst h4;subst h5;subst h6;rfl
theorem Ab{x y:Lm}(h:x.acc=y.acc→x.sym=y.sym→x.long=y.long→x.short=y.short→x.au=y.au→¬x.value=y.value):x≠y:=by
 rintro rfl;exact h rfl rfl rfl rfl rfl rfl
instance decVn:DecidableEq Vn:=fun a b=>decidable_of_iff (a.book=b.book∧a.aF=b.aF∧a.last=b.last∧a.bq=b.bq) (by cases a;cases b;simp)
instance decGt:DecidableEq Gt:=fun a b=>decidable_of_iff (a.an=b.an∧a.aZ=b.aZ∧a.kill=b.kill∧a.now=b.now∧a.pat=b.pat) (by cases a;cases b;simp)
theorem Xz(p q:Vn):decide (p=q)=(decide (p.book=q.book)&&decide (p.aF=q.aF)&&decide (p.last=q.last)&&decide (p.bq=q.bq)):=by
 obtain⟨a,b,c,d⟩:=p
 obtain⟨a',b',c',d'⟩:=q
 rw[Bool.eq_iff_iff];simp[and_assoc]
theorem Xx(p q:Gt):decide (p=q)=(decide (p.an=q.an)&&decide (p.aZ=q.aZ)&&decide (p.kill=q.kill)&&decide (p.now=q.now)&&decide (p.pat=q.pat)):=by
 obtain⟨a,b,c,d,e⟩:=p
 obtain⟨a',b',c',d',e'⟩:=q
 rw[Bool.eq_iff_iff];simp[and_assoc]
theorem zW(p q:List Od)(hl:p.length≤9223372036854775807):ai E 110 [bz p,bz q] (fun r t=>r=bl (decide (p=q))∧t=[]):=by
 refine ai.aC (n:=26) (rs:=[.tmp 4]) Tryz.func110 rfl Tryz.ntmps110 rfl ?_
 repeat'(first
 |refine aa.ah fun K hK=>?_
 |(refine aa.region ?_;simp only[go_sem])
 |(refine aa.here 6 16 9 rfl ?_;refine aa.bA [0,1,2,3,4,5,6,7,8] [] ae ae rfl ?_;simp only[go_sem])
 |(refine hK _ ?_;clear hK K)
 |refine aa.block ?_
 |refine aa.cond rfl (fun c=>?_) (fun c=>?_)<;>(try simp only[dD] at c)
 |refine aa.skip ?_
 |(refine aa.exit ?_;simp only[go_sem])
 |((first|refine aQ.nth ?_ (fun b hb=>?_)|with_reducible refine And.intro ?_ ?_);(focus(first|omega|(simp;done)));(try simp only[hb,go_sem]))
 |(
  refine aa.here 4 14 1 rfl ?_
  refine aa.dW (ι:=Nat) [4,5,14,15,16,17,18,19,20,21,22,23,24,25] (fun(i:Nat)=>[(13,i64 i)]) (fun(i:Nat)=>i≤p.length∧p.length=q.length∧p.take i=q.take i) (fun(i:Nat)=>p.length-i) (0) ?_ ?_ ?_
  ·(try simp only[go_sem]);(repeat'(first|fail));done
  ·exact⟨by omega,by omega,by simp⟩
  rintro i ⟨h1,h2,h3⟩
  simp only[go_sem])
 |(
  refine⟨i+1,?_,?_,?_⟩
  ·(try simp only[go_sem]);(try rw[aN ab ab]);(repeat'(exact .inr rfl));done
  ·exact⟨by omega,by omega,mA (a:=p) (b:=q) af af (by exact AL af) h3⟩
  ·(try simp only[]);omega)
 |(
  refine aa.ret ?_
  refine aM.is ?_;simp only[go_sem,aI,aH,aG,aK,aJ,aL]<;>(first
  |(rw[mB ab];done)
  |(rw[mC (a:=p) (b:=q) af af (by exact AM af)];done)
  |(rw[mD h2 ab h3];done)))
 |refine aa.fin af ?_)
theorem Rh(p q:List Dn)(hl:p.length≤9223372036854775807):ai E 153 [dn p,dn q] (fun r t=>r=bl (decide (p=q))∧t=[]):=by
 refine ai.aC (n:=26) (rs:=[.tmp 4]) Tryz.func153 rfl Tryz.ntmps153 rfl ?_
 repeat'(first
 |refine aa.ah fun K hK=>?_
 |(refine aa.region ?_;simp only[go_sem])
 |(refine aa.here 6 16 9 rfl ?_;refine aa.bA [0,1,2,3,4,5,6,7,8] [] ae ae rfl ?_;simp only[go_sem])
 |(refine hK _ ?_;clear hK K)
 |refine aa.block ?_
 |refine aa.cond rfl (fun c=>?_) (fun c=>?_)<;>(try simp only[dD] at c)
 |refine aa.skip ?_
 |(refine aa.exit ?_;simp only[go_sem])
 |((first|refine aQ.nth ?_ (fun b hb=>?_)|with_reducible refine And.intro ?_ ?_);(focus(first|omega|(simp;done)));(try simp only[hb,go_sem]))
 |(
  refine aa.here 4 14 1 rfl ?_
  refine aa.dW (ι:=Nat) [4,5,14,15,16,17,18,19,20,21,22,23,24,25] (fun(i:Nat)=>[(13,i64 i)]) (fun(i:Nat)=>i≤p.length∧p.length=q.length∧p.take i=q.take i) (fun(i:Nat)=>p.length-i) (0) ?_ ?_ ?_
  ·(try simp only[go_sem]);(repeat'(first|fail));done
  ·exact⟨by omega,by omega,by simp⟩
  rintro i ⟨h1,h2,h3⟩
  simp only[go_sem])
 |(
  refine⟨i+1,?_,?_,?_⟩
  ·(try simp only[go_sem]);(try rw[aN ab ab]);(repeat'(exact .inr rfl));done
  ·exact⟨by omega,by omega,mA (a:=p) (b:=q) af af (by exact yJ af) h3⟩
  ·(try simp only[]);omega)
 |(
  refine aa.ret ?_
  refine aM.is ?_;simp only[go_sem,aI,aH,aG,aK,aJ,aL]<;>(first
  |(rw[mB ab];done)
  |(rw[mC (a:=p) (b:=q) af af (by exact yL af)];done)
  |(rw[mD h2 ab h3];done)))
 |refine aa.fin af ?_)
theorem RV(p q:List Bs)(hl:p.length≤9223372036854775807):ai E 154 [.sl none 1 (p.map str),.sl none 1 (q.map str)] (fun r t=>r=bl (decide (p=q))∧t=[]):=by
 refine ai.aC (n:=26) (rs:=[.tmp 4]) Tryz.func154 rfl Tryz.ntmps154 rfl ?_
 repeat'(first
 |refine aa.ah fun K hK=>?_
 |(refine aa.region ?_;simp only[go_sem])
 |(refine aa.here 6 16 9 rfl ?_;refine aa.bA [0,1,2,3,4,5,6,7,8] [] ae ae rfl ?_;simp only[go_sem])
 |(refine hK _ ?_;clear hK K)
 |refine aa.block ?_
 |refine aa.cond rfl (fun c=>?_) (fun c=>?_)<;>(try simp only[dD] at c)
 |refine aa.skip ?_
 |(refine aa.exit ?_;simp only[go_sem])
 |((first|refine aQ.nth ?_ (fun b hb=>?_)|with_reducible refine And.intro ?_ ?_);(focus(first|omega|(simp;done)));(try simp only[hb,go_sem]))
 |(
  refine aa.here 4 14 1 rfl ?_
  refine aa.dW (ι:=Nat) [4,5,14,15,16,17,18,19,20,21,22,23,24,25] (fun(i:Nat)=>[(13,i64 i)]) (fun(i:Nat)=>i≤p.length∧p.length=q.length∧p.take i=q.take i) (fun(i:Nat)=>p.length-i) (0) ?_ ?_ ?_
  ·(try simp only[go_sem]);(repeat'(first|fail));done
  ·exact⟨by omega,by omega,by simp⟩
  rintro i ⟨h1,h2,h3⟩
  simp only[go_sem])
 |(
  refine⟨i+1,?_,?_,?_⟩
  ·(try simp only[go_sem]);(try rw[aN ab ab]);(repeat'(exact .inr rfl));done
  ·exact⟨by omega,by omega,mA (a:=p) (b:=q) af af af h3⟩
  ·(try simp only[]);omega)
 |(
  refine aa.ret ?_
  refine aM.is ?_;simp only[go_sem,aI,aH,aG,aK,aJ,aL]<;>(first
  |(rw[mB ab];done)
  |(rw[mC (a:=p) (b:=q) af af af];done)
  |(rw[mD h2 ab h3];done)))
 |refine aa.fin af ?_)
theorem RB(p q:List Lm)(hl:p.length≤9223372036854775807):ai E 52 [cp p,cp q] (fun r t=>r=bl (decide (p=q))∧t=[]):=by
 refine ai.aC (n:=26) (rs:=[.tmp 4]) Tryz.func52 rfl Tryz.ntmps52 rfl ?_
 repeat'(first
 |refine aa.ah fun K hK=>?_
 |(refine aa.region ?_;simp only[go_sem])
 |(refine aa.here 6 16 9 rfl ?_;refine aa.bA [0,1,2,3,4,5,6,7,8] [] ae ae rfl ?_;simp only[go_sem])
 |(refine hK _ ?_;clear hK K)
 |refine aa.block ?_
 |refine aa.cond rfl (fun c=>?_) (fun c=>?_)<;>(try simp only[dD] at c)
 |refine aa.skip ?_
 |(refine aa.exit ?_;simp only[go_sem])
 |((first|refine aQ.nth ?_ (fun b hb=>?_)|with_reducible refine And.intro ?_ ?_);(focus(first|omega|(simp;done)));(try simp only[hb,go_sem]))
 |(
  refine aa.here 4 14 1 rfl ?_
  refine aa.dW (ι:=Nat) [4,5,14,15,16,17,18,19,20,21,22,23,24,25] (fun(i:Nat)=>[(13,i64 i)]) (fun(i:Nat)=>i≤p.length∧p.length=q.length∧p.take i=q.take i) (fun(i:Nat)=>p.length-i) (0) ?_ ?_ ?_
  ·(try simp only[go_sem]);(repeat'(first|fail));done
  ·exact⟨by omega,by omega,by simp⟩
  rintro i ⟨h1,h2,h3⟩
  simp only[go_sem])
 |(
  refine⟨i+1,?_,?_,?_⟩
  ·(try simp only[go_sem]);(try rw[aN ab ab]);(repeat'(exact .inr rfl));done
  ·exact⟨by omega,by omega,mA (a:=p) (b:=q) af af (by exact Td af) h3⟩
  ·(try simp only[]);omega)
 |(
  refine aa.ret ?_
  refine aM.is ?_;simp only[go_sem,aI,aH,aG,aK,aJ,aL]<;>(first
  |(rw[mB ab];done)
  |(rw[mC (a:=p) (b:=q) af af (by exact Ab af)];done)
  |(rw[mD h2 ab h3];done)))
 |refine aa.fin af ?_)
end Go.Proofs.YthoonfpkfdjhiaaGreatDoor
end
