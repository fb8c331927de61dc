/- Texts of one chain, put together (BN3, BN4, BN5, BN6, BN7, BN8). -/
import Derived.Test.YthoonfpkfdjhiaaGreatDoorKbK
import Derived.Test.YthoonfpkfdjhiaaGreatDoorKbF
import Derived.Test.YthoonfpkfdjhiaaGreatDoorKbA
set_option linter.unusedVariables false
set_option linter.unusedSimpArgs false
set_option maxHeartbeats 16000000
set_option maxRecDepth 8000
section
namespace Go.Proofs.YthoonfpkfdjhiaaGreatDoor
open Go Go.az Go.RowKit Go.Bk
theorem gH{r:List Od×Int}{e:Int}(h:r.2=e)(he:e≠0):∃x,AV.ax [.any,i64 e]= .ax [x,i64 r.2]∧(r.2=0→x=bz r.1):=⟨.any,by rw[h],fun h0=>absurd (h.symm.trans h0) he⟩
theorem kV{r:List Od×Int}{l:List Od}(h:r=(l,0)):∃x,AV.ax [bz l,i64 0]= .ax [x,i64 r.2]∧(r.2=0→x=bz r.1):=⟨bz l,by rw[h],fun _=>by rw[h]⟩
theorem vZ(l:List Od)(id:Bs)(hl:l.length≤9223372036854775807):ai E 279 [bz l,str id] (fun r t=>r=i64 (gi l id)∧t=[]):=by
 refine ai.aC (n:=20) (rs:=[.tmp 4]) Tryz.func279 rfl Tryz.ntmps279 rfl ?_
 refine aa.ah fun K1 hK1=>?_
 refine aa.region ?_
 simp only[go_sem]
 refine hK1 _ ?_;clear hK1 K1
 refine aa.ah fun K2 hK2=>?_
 refine aa.region ?_
 simp only[go_sem]
 repeat'((refine ak.one (qZ _ _ (by(omega))) ae rfl ?_;simp only[go_sem]))
 refine hK2 _ ?_;clear hK2 K2
 refine aa.ah fun K3 hK3=>?_
 refine aa.ah fun K4 hK4=>?_
 rcases kS l id with⟨e,e2⟩|⟨n,o,e,e2,hb⟩<;>simp only[e]
 all_goals(
  refine aa.region ?_
  simp only[go_sem]
  repeat'((refine aQ.ez af ?_;(try simp only[go_sem])))
  all_goals(
   refine hK4 _ ?_;clear hK4 K4
   refine aa.cond rfl (fun c18=>?_) (fun c18=>?_)
   ·first|exact Bool.noConfusion c18|(
     try simp only[dD] at c18
     refine aa.ah fun K5 hK5=>?_
     refine aa.region ?_
     simp only[go_sem]
     refine hK5 _ ?_;clear hK5 K5
     refine aa.ret ?_
     try simp only[go_sem]
     clear hK3 K3
     (exact⟨[],.v _,rfl,rfl,by rw[Vc e hb af],rfl⟩))
   ·(
     try simp only[dD] at c18
     refine aa.skip ?_
     refine hK3 _ ?_;clear hK3 K3
     refine aa.ah fun K6 hK6=>?_
     refine aa.region ?_
     simp only[go_sem]
     refine hK6 _ ?_;clear hK6 K6
     refine aa.ret ?_
     try simp only[go_sem]
     first
     |exact⟨[],.v _,rfl,rfl,by rw[Ve e hb af],rfl⟩
     |exact⟨[],.v _,rfl,rfl,by rw[Vd ab,e],rfl⟩)))
theorem s5(l:List Od)(id:Bs)(hl:l.length≤9223372036854775807):ai E 132 [bz l,str id] (fun r t=>r= .ax [bf (findF l id).1,bl (findF l id).2]∧t=[]):=by
 refine ai.aC (n:=21) (rs:=[.cell 4 23,.tmp 5]) Tryz.func132 rfl Tryz.ntmps132 rfl ?_
 refine aa.ah fun K1 hK1=>?_
 refine aa.region ?_
 simp only[go_sem]
 refine hK1 _ ?_;clear hK1 K1
 refine aa.ah fun K2 hK2=>?_
 refine aa.ah fun K3 hK3=>?_
 refine aa.region ?_
 simp only[go_sem]
 repeat'((refine ak.one (mU _ ab) ae rfl ?_;simp only[go_sem]))
 refine hK3 _ ?_;clear hK3 K3
 refine aa.cond rfl (fun c9=>?_) (fun c9=>?_)
 ·(
   try simp only[dD] at c9
   refine aa.ah fun K4 hK4=>?_
   refine aa.region ?_
   simp only[go_sem]
   refine hK4 _ ?_;clear hK4 K4
   refine aa.ret ?_
   try simp only[go_sem]
   clear hK2 K2
   (exact⟨[],.ax [bf br,.v _],rfl,⟨⟨rfl,rfl,rfl,rfl,rfl,rfl,rfl,rfl,trivial⟩,rfl,trivial⟩,by rw[OZ af],rfl⟩))
 ·(
   try simp only[dD] at c9
   refine aa.skip ?_
   refine hK2 _ ?_;clear hK2 K2
   refine aa.ah fun K5 hK5=>?_
   refine aa.region ?_
   simp only[go_sem]
   repeat'((refine ak.one (qZ _ _ (by(omega))) ae rfl ?_;simp only[go_sem]))
   refine hK5 _ ?_;clear hK5 K5
   refine aa.ah fun K6 hK6=>?_
   refine aa.ah fun K7 hK7=>?_
   refine aa.region ?_
   simp only[go_sem]
   refine hK7 _ ?_;clear hK7 K7
   refine aa.cond rfl (fun c15=>?_) (fun c15=>?_)
   ·(
     try simp only[dD] at c15
     refine aa.ah fun K8 hK8=>?_
     refine aa.region ?_
     simp only[go_sem]
     refine hK8 _ ?_;clear hK8 K8
     refine aa.ret ?_
     try simp only[go_sem]
     clear hK6 K6
     (exact⟨[],.ax [bf br,.v _],rfl,⟨⟨rfl,rfl,rfl,rfl,rfl,rfl,rfl,rfl,trivial⟩,rfl,trivial⟩,by rw[O0 af ab],rfl⟩))
   ·(
     try simp only[dD] at c15
     refine aa.skip ?_
     refine hK6 _ ?_;clear hK6 K6
     refine aa.ah fun K9 hK9=>?_
     obtain⟨n,o,e,e2,hb⟩:∃n o,ef l id=(n:Nat)∧cW l id=some n∧l[n]?=some o:=by
      rcases kS l id with⟨e,e2⟩|h
      ·exact absurd (show ef l id<0 by omega) af
      ·exact h
     simp only[e]
     refine aa.region ?_
     simp only[go_sem]
     repeat'((refine aQ.ez af ?_;(try simp only[go_sem])))
     refine hK9 _ ?_;clear hK9 K9
     refine aa.ret ?_
     try simp only[go_sem]
     (exact⟨[],.ax [bf o,.v _],rfl,⟨⟨rfl,rfl,rfl,rfl,rfl,rfl,rfl,rfl,trivial⟩,rfl,trivial⟩,by rw[O2 af e hb],rfl⟩)))
theorem om(l:List Od)(hl:l.length≤1000000):ai E 79 [bz l] (fun r t=>r= .sl (some 0) 8 (l.map bf)∧t=[l.length]):=by
 refine ai.aC (n:=8) (rs:=[.tmp 2]) Tryz.func79 rfl Tryz.ntmps79 rfl ?_
 refine aa.ah fun K1 hK1=>?_
 refine aa.region ?_
 simp only[go_sem]
 refine hK1 _ ?_;clear hK1 K1
 refine aa.ah fun K2 hK2=>?_
 refine aa.ah fun K3 hK3=>?_
 refine aa.region ?_
 simp only[go_sem]
 repeat'(((with_reducible refine And.intro ?_ ?_);(focus(((simp;done))));(try simp only[hb,go_sem])))
 intro bb hbb
 refine hK3 _ ?_;clear hK3 K3
 refine aa.cond rfl (fun c4=>?_) (fun c4=>?_)
 ·(
   try simp only[dD] at c4
   refine aa.ah fun K4 hK4=>?_
   refine aa.region ?_
   simp only[go_sem]
   refine hK4 _ ?_;clear hK4 K4
   refine aa.ret ?_
   try simp only[go_sem]
   clear hK2 K2
   first
   |(have he:l=[]:=by
      apply Classical.byContradiction;intro hne
      have:=hbb (by simpa using hne)
      rw[this] at c4;exact absurd c4 aB
     exact⟨[(false,8)],.sl (some 0) 8 [],rfl,rfl,by rw[he];rfl,by rw[he];rfl⟩))
 ·(
   try simp only[dD] at c4
   refine aa.skip ?_
   refine hK2 _ ?_;clear hK2 K2
   refine aa.ah fun K5 hK5=>?_
   refine aa.region ?_
   simp only[go_sem]
   repeat'(((with_reducible refine And.intro ?_ ?_);(focus((omega)));(try simp only[hb,go_sem])))
   refine hK5 _ ?_;clear hK5 K5
   refine aa.ret ?_
   try simp only[go_sem]
   (exact⟨[(true,0)],.sl (some 0) 8 _,rfl,⟨rfl,rfl,rfl⟩,by simp,by simp[ja]⟩))
theorem Vb(l:List Od)(o:Od)(hl:l.length≤1000000):ai E 253 [bz l,bf o] (fun r t=>(∃x,r= .ax [x,i64 (dV l o).2]∧((dV l o).2=0→x=bz (dV l o).1))∧t=[]):=by
 refine ai.aC (n:=36) (rs:=[.tmp 4,.tmp 5]) Tryz.func253 rfl Tryz.ntmps253 rfl ?_
 refine aa.ah fun K1 hK1=>?_
 refine aa.region ?_
 simp only[go_sem]
 refine hK1 _ ?_;clear hK1 K1
 refine aa.ah fun K2 hK2=>?_
 refine aa.region ?_
 simp only[go_sem]
 repeat'((refine ak.of (om l hl) ae rfl ?_;rintro r t ⟨rfl,rfl⟩<;>simp only[go_sem]))
 refine hK2 _ ?_;clear hK2 K2
 refine aa.ah fun K3 hK3=>?_
 refine aa.region ?_
 simp only[go_sem]
 refine hK3 _ ?_;clear hK3 K3
 refine aa.ah fun K4 hK4=>?_
 refine aa.region ?_
 simp only[go_sem]
 refine hK4 _ ?_;clear hK4 K4
 refine aa.ah fun K5 hK5=>?_
 refine aa.block ?_
 refine aa.ah fun K6 hK6=>?_
 refine aa.region ?_
 simp only[go_sem]
 repeat'(first|(refine ak.one (mU _ ab) ae rfl ?_;simp only[go_sem])|(refine ak.one (ou ⟨o.id,o.acc,o.sym,o.aD,o.au,o.aE,0,true⟩) ae rfl ?_;simp only[go_sem])|(refine aP.split (fun h=>?_) (fun h=>?_)<;>simp only[h,go_sem]<;>try simp only[dD] at h))
 all_goals(
  refine hK6 _ ?_;clear hK6 K6
  refine aa.cond rfl (fun c10=>?_) (fun c10=>?_)
  ·(
    try simp only[dD] at c10
    refine aa.ah fun K7 hK7=>?_
    refine aa.region ?_
    simp only[go_sem]
    refine hK7 _ ?_;clear hK7 K7
    refine aa.ret ?_
    try simp only[go_sem]
    clear hK5 K5
    first
    |exact⟨[],.ax [.any,.v _],rfl,⟨trivial,rfl,trivial⟩,gH (T7 af) aj,rfl⟩
    |exact⟨[],.ax [.any,.v _],rfl,⟨trivial,rfl,trivial⟩,gH (T8 af) aj,rfl⟩)
  ·first|exact Bool.noConfusion c10|(
    try simp only[dD] at c10
    refine aa.ah fun K8 hK8=>?_
    refine aa.region ?_
    simp only[go_sem]
    repeat'((refine ak.one (qZ _ _ (by(omega))) ae rfl ?_;simp only[go_sem]))
    refine hK8 _ ?_;clear hK8 K8
    refine aa.cond rfl (fun c20=>?_) (fun c20=>?_)
    ·(
      try simp only[dD] at c20
      refine aa.ah fun K9 hK9=>?_
      refine aa.region ?_
      simp only[go_sem]
      refine hK9 _ ?_;clear hK9 K9
      refine aa.ret ?_
      try simp only[go_sem]
      clear hK5 K5
      (exact⟨[],.ax [.any,.v _],rfl,⟨trivial,rfl,trivial⟩,gH (Ua af af af) aj,rfl⟩))
    ·(
      try simp only[dD] at c20
      refine aa.ah fun K10 hK10=>?_
      refine aa.region ?_
      simp only[go_sem]
      repeat'(((with_reducible refine And.intro ?_ ?_);(focus(((simp;done))));(try simp only[hb,go_sem])))
      refine hK10 _ ?_;clear hK10 K10
      refine aa.cond rfl (fun eV=>?_) (fun eV=>?_)
      ·(
        try simp only[dD] at eV
        refine aa.ah fun K11 hK11=>?_
        refine aa.region ?_
        simp only[go_sem]
        refine hK11 _ ?_;clear hK11 K11
        refine aa.ret ?_
        try simp only[go_sem]
        clear hK5 K5
        (exact⟨[],.ax [.any,.v _],rfl,⟨trivial,rfl,trivial⟩,gH (T9 af af af ab) aj,rfl⟩))
      ·(
        try simp only[dD] at eV
        refine aa.skip ?_
        refine hK5 _ ?_;clear hK5 K5
        refine aa.ah fun K12 hK12=>?_
        refine aa.region ?_
        simp only[go_sem]
        repeat'(((with_reducible refine And.intro ?_ ?_);(focus((omega)));(try simp only[hb,go_sem])))
        refine hK12 _ ?_;clear hK12 K12
        refine aa.ret ?_
        try simp only[go_sem]
        (exact⟨[],.ax [.sl none 8 _,.v _],rfl,⟨⟨rfl,by rw[List.map_append];rfl⟩,rfl,trivial⟩,kV (Uc af af af ab),rfl⟩)))))
theorem UL(l:List Od)(id:Bs)(hl:l.length≤1000000):ai E 257 [bz l,str id] (fun r t=>(∃x,r= .ax [x,i64 (ej l id).2]∧((ej l id).2=0→x=bz (ej l id).1))∧t=[]):=by
 refine ai.aC (n:=24) (rs:=[.tmp 4,.tmp 5]) Tryz.func257 rfl Tryz.ntmps257 rfl ?_
 refine aa.ah fun K1 hK1=>?_
 refine aa.region ?_
 simp only[go_sem]
 refine hK1 _ ?_;clear hK1 K1
 refine aa.ah fun K2 hK2=>?_
 refine aa.region ?_
 simp only[go_sem]
 repeat'((refine ak.take (om l hl) ae rfl (.cons (.one (.clean rfl)) .nil) ?_;rintro r t ⟨rfl,rfl⟩;refine⟨0,8,_,rfl,by simp,tg _,fun m=>?_⟩;simp only[go_sem,List.length_map]))
 refine hK2 _ ?_;clear hK2 K2
 refine aa.ah fun K3 hK3=>?_
 refine aa.ah fun K4 hK4=>?_
 refine aa.region ?_
 simp only[go_sem]
 repeat'((refine ak.ie (mU l ab) ae rfl (.cons (.one (.jA rfl aB (jq l))) .nil) ?_;simp only[go_sem]))
 refine hK4 _ ?_;clear hK4 K4
 refine aa.cond rfl (fun c11=>?_) (fun c11=>?_)
 ·(
   try simp only[dD] at c11
   refine aa.ah fun K5 hK5=>?_
   refine aa.region ?_
   simp only[go_sem]
   refine hK5 _ ?_;clear hK5 K5
   refine aa.ret ?_
   try simp only[go_sem]
   clear hK3 K3
   (exact⟨[],.ax [.any,.v _],rfl,⟨trivial,rfl,trivial⟩,gH (KL af) aj,rfl⟩))
 ·(
   try simp only[dD] at c11
   refine aa.skip ?_
   refine hK3 _ ?_;clear hK3 K3
   refine aa.ah fun K6 hK6=>?_
   refine aa.region ?_
   simp only[go_sem]
   repeat'((refine ak.ie (vZ l _ ab) ae rfl (.cons (.one (.jA rfl aB (jq l))) (.cons (.one (.clean rfl)) .nil)) ?_;simp only[go_sem]))
   refine hK6 _ ?_;clear hK6 K6
   refine aa.ah fun K7 hK7=>?_
   refine aa.ah fun K8 hK8=>?_
   refine aa.region ?_
   simp only[go_sem]
   refine hK8 _ ?_;clear hK8 K8
   refine aa.cond rfl (fun c17=>?_) (fun c17=>?_)
   ·(
     try simp only[dD] at c17
     refine aa.ah fun K9 hK9=>?_
     refine aa.region ?_
     simp only[go_sem]
     refine hK9 _ ?_;clear hK9 K9
     refine aa.ret ?_
     try simp only[go_sem]
     clear hK7 K7
     (exact⟨[],.ax [.any,.v _],rfl,⟨trivial,rfl,trivial⟩,gH (KM af (v7 af)) aj,rfl⟩))
   ·(
     try simp only[dD] at c17
     refine aa.skip ?_
     refine hK7 _ ?_;clear hK7 K7
     refine aa.ah fun K10 hK10=>?_
     obtain⟨n,o,e,e2,hb,ho⟩:∃n o,gi l id=(n:Nat)∧eC l id=some n∧l[n]?=some o∧o.b9=true:=by
      rcases s9 l id with⟨e,e2⟩|h
      ·exact absurd (show gi l id<0 by omega) af
      ·exact h
     simp only[e]
     have hn:n<l.length:=cz hb
     have hg:=sY hb (spare 8 m)
     refine aa.region ?_
     simp only[go_sem,hg]
     repeat'(((with_reducible refine And.intro ?_ ?_);(focus((omega)));(try simp only[hb,go_sem,hg])))
     refine hK10 _ ?_;clear hK10 K10
     refine aa.ah fun K11 hK11=>?_
     refine aa.oz 0 0 8 l.length _ ((l.set n ⟨o.id,o.acc,o.sym,o.aD,o.au,o.aE,o.done,false⟩).map bf) (spare 8 m) rfl (congrArg (fun x=>some (some x)) (sZ (o':=⟨o.id,o.acc,o.sym,o.aD,o.au,o.aE,o.done,false⟩) hb (spare 8 m))) aB (jq _) ?_
     simp only[go_sem]
     refine aa.region ?_
     simp only[go_sem]
     refine hK11 _ ?_;clear hK11 K11
     refine aa.ret ?_
     try simp only[go_sem]
     (exact⟨[],.ax [.sl none 8 _,.v _],rfl,⟨⟨rfl,rfl⟩,rfl,trivial⟩,kV (KO af e2 hb),rfl⟩)))
theorem UY(l:List Od)(id:Bs)(q p:Int)(hq:q≤4611686018427387904)(hl:l.length≤1000000):ai E 277 [bz l,str id,i64 q,i64 p] (fun r t=>(∃x,r= .ax [x,i64 (dF l id q p).2]∧((dF l id q p).2=0→x=bz (dF l id q p).1))∧t=[]):=by
 refine ai.aC (n:=68) (rs:=[.tmp 8,.tmp 9]) Tryz.func277 rfl Tryz.ntmps277 rfl ?_
 refine aa.ah fun K1 hK1=>?_
 refine aa.region ?_
 simp only[go_sem]
 refine hK1 _ ?_;clear hK1 K1
 refine aa.ah fun K2 hK2=>?_
 refine aa.region ?_
 simp only[go_sem]
 repeat'((refine ak.take (om l hl) ae rfl (.cons (.one (.clean rfl)) .nil) ?_;rintro r t ⟨rfl,rfl⟩;refine⟨0,8,_,rfl,by simp,tg _,fun m=>?_⟩;simp only[go_sem,List.length_map]))
 refine hK2 _ ?_;clear hK2 K2
 refine aa.ah fun K3 hK3=>?_
 refine aa.ah fun K4 hK4=>?_
 refine aa.region ?_
 simp only[go_sem]
 repeat'((refine ak.ie (mU l ab) ae rfl (.cons (.one (.jA rfl aB (jq l))) .nil) ?_;simp only[go_sem]))
 refine hK4 _ ?_;clear hK4 K4
 refine aa.cond rfl (fun c15=>?_) (fun c15=>?_)
 ·(
   try simp only[dD] at c15
   refine aa.ah fun K5 hK5=>?_
   refine aa.region ?_
   simp only[go_sem]
   refine hK5 _ ?_;clear hK5 K5
   refine aa.ret ?_
   try simp only[go_sem]
   clear hK3 K3
   (exact⟨[],.ax [.any,.v _],rfl,⟨trivial,rfl,trivial⟩,gH (OP af) aj,rfl⟩))
 ·(
   try simp only[dD] at c15
   refine aa.skip ?_
   refine hK3 _ ?_;clear hK3 K3
   refine aa.ah fun K6 hK6=>?_
   refine aa.region ?_
   simp only[go_sem]
   repeat'((refine ak.ie (vZ l _ ab) ae rfl (.cons (.one (.jA rfl aB (jq l))) (.cons (.one (.clean rfl)) .nil)) ?_;simp only[go_sem]))
   refine hK6 _ ?_;clear hK6 K6
   refine aa.ah fun K7 hK7=>?_
   refine aa.ah fun K8 hK8=>?_
   refine aa.region ?_
   simp only[go_sem]
   refine hK8 _ ?_;clear hK8 K8
   refine aa.cond rfl (fun c21=>?_) (fun c21=>?_)
   ·(
     try simp only[dD] at c21
     refine aa.ah fun K9 hK9=>?_
     refine aa.region ?_
     simp only[go_sem]
     refine hK9 _ ?_;clear hK9 K9
     refine aa.ret ?_
     try simp only[go_sem]
     clear hK7 K7
     (exact⟨[],.ax [.any,.v _],rfl,⟨trivial,rfl,trivial⟩,gH (OQ af (v7 af)) aj,rfl⟩))
   ·(
     try simp only[dD] at c21
     refine aa.skip ?_
     refine hK7 _ ?_;clear hK7 K7
     refine aa.ah fun K10 hK10=>?_
     refine aa.ah fun K11 hK11=>?_
     obtain⟨n,o,e,e2,hb,ho⟩:∃n o,gi l id=(n:Nat)∧eC l id=some n∧l[n]?=some o∧o.b9=true:=by
      rcases s9 l id with⟨e,e2⟩|h
      ·exact absurd (show gi l id<0 by omega) af
      ·exact h
     simp only[e]
     have hn:n<l.length:=cz hb
     have hg:=sY hb (spare 8 m)
     refine aa.region ?_
     simp only[go_sem,hg]
     repeat'(first|(refine ak.one (A4 _) ae rfl ?_;simp only[go_sem,hg])|(refine aP.du (fun h=>?_) (fun h=>?_)<;>simp only[h,go_sem,hg]<;>try simp only[dD] at h)|((with_reducible refine And.intro ?_ ?_);(focus((omega)));(try simp only[hb,go_sem,hg])))
     all_goals(
      refine hK11 _ ?_;clear hK11 K11
      refine aa.cond rfl (fun c33=>?_) (fun c33=>?_)
      ·(
        try simp only[dD] at c33
        refine aa.ah fun K12 hK12=>?_
        refine aa.region ?_
        simp only[go_sem]
        refine hK12 _ ?_;clear hK12 K12
        refine aa.ret ?_
        try simp only[go_sem]
        clear hK10 K10
        first
        |exact⟨[],.ax [.any,.v _],rfl,⟨trivial,rfl,trivial⟩,gH (y8 af e2 hb (.inl af)) aj,rfl⟩
        |exact⟨[],.ax [.any,.v _],rfl,⟨trivial,rfl,trivial⟩,gH (y8 af e2 hb (.inr af)) aj,rfl⟩)
      ·first|exact Bool.noConfusion c33|(
        try simp only[dD] at c33
        refine aa.skip ?_
        refine hK10 _ ?_;clear hK10 K10
        refine aa.ah fun K13 hK13=>?_
        refine aa.ah fun K14 hK14=>?_
        refine aa.region ?_
        simp only[go_sem,hg]
        repeat'(first|(refine ak.one (UX _ _) ae rfl ?_;simp only[go_sem,hg])|((with_reducible refine And.intro ?_ ?_);(focus((omega)));(try simp only[hb,go_sem,hg])))
        refine hK14 _ ?_;clear hK14 K14
        refine aa.cond rfl (fun c41=>?_) (fun c41=>?_)
        ·(
          try simp only[dD] at c41
          refine aa.ah fun K15 hK15=>?_
          refine aa.region ?_
          simp only[go_sem]
          refine hK15 _ ?_;clear hK15 K15
          refine aa.ret ?_
          try simp only[go_sem]
          clear hK13 K13
          (exact⟨[],.ax [.any,.v _],rfl,⟨trivial,rfl,trivial⟩,gH (OR af e2 hb af af af) aj,rfl⟩))
        ·(
          try simp only[dD] at c41
          refine aa.skip ?_
          refine hK13 _ ?_;clear hK13 K13
          refine aa.ah fun K16 hK16=>?_
          have hroom:=y9 (wI af hb) af af
          have hw:IntKind.i64.wrap (o.done+q)=o.done+q:=aM ab ab
          refine aa.region ?_
          simp only[go_sem,hg]
          repeat'(((with_reducible refine And.intro ?_ ?_);(focus((omega)));(try simp only[hb,go_sem,hg])))
          refine hK16 _ ?_;clear hK16 K16
          refine aa.ah fun K17 hK17=>?_
          rw[hw]
          rw[sZ (o':=⟨o.id,o.acc,o.sym,o.aD,o.au,o.aE,o.done+q,o.b9⟩) hb (spare 8 m)]
          have hb2:(l.set n ⟨o.id,o.acc,o.sym,o.aD,o.au,o.aE,o.done+q,o.b9⟩)[n]?=some ⟨o.id,o.acc,o.sym,o.aD,o.au,o.aE,o.done+q,o.b9⟩:=List.getElem?_set_self hn
          have hg2:=sY hb2 (spare 8 m)
          refine aa.bB [0,1,2,3,4,5,6,7,8,9,10,11,12,13,14,15] [] ae ae rfl ?_
          simp only[go_sem,hg2]
          repeat'(((with_reducible refine And.intro ?_ ?_);(focus((omega)));(try simp only[hb,go_sem,hg2])))
          refine hK17 _ ?_;clear hK17 K17
          refine aa.ah fun K18 hK18=>?_
          refine aa.oz 0 0 8 l.length _ (((l.set n ⟨o.id,o.acc,o.sym,o.aD,o.au,o.aE,o.done+q,o.b9⟩).set n ⟨o.id,o.acc,o.sym,o.aD,o.au,o.aE,o.done+q,decide (o.done+q<o.au)⟩).map bf) (spare 8 m) rfl (congrArg (fun x=>some (some x)) (sZ (o':=⟨o.id,o.acc,o.sym,o.aD,o.au,o.aE,o.done+q,decide (o.done+q<o.au)⟩) hb2 (spare 8 m))) aB (jq _) ?_
          simp only[go_sem]
          refine aa.region ?_
          simp only[go_sem]
          refine hK18 _ ?_;clear hK18 K18
          refine aa.ret ?_
          try simp only[go_sem]
          (exact⟨[],.ax [.sl none 8 _,.v _],rfl,⟨⟨rfl,by rw[List.set_set]⟩,rfl,trivial⟩,kV (qF af e2 hb af af af),rfl⟩))))))
theorem UM{l:List Od}{n:Nat}{o:Od}(sp:List AV):((l.set n o).map bf++sp).take l.length=(l.set n o).map bf:=by
 rw[List.take_left' aB]
theorem UK(l:List Od)(a b:Bs)(q p:Int)(hl:l.length≤1000000):ai E 278 [bz l,str a,str b,i64 q,i64 p] (fun r t=>(∃x,r= .ax [x,i64 (dE l a b q p).2]∧((dE l a b q p).2=0→x=bz (dE l a b q p).1))∧t=[]):=by
 refine ai.aC (n:=66) (rs:=[.tmp 10,.tmp 11]) Tryz.func278 rfl Tryz.ntmps278 rfl ?_
 refine aa.ah fun K1 hK1=>?_
 refine aa.region ?_
 simp only[go_sem]
 refine hK1 _ ?_;clear hK1 K1
 refine aa.ah fun K2 hK2=>?_
 refine aa.region ?_
 simp only[go_sem]
 repeat'((refine ak.take (om l hl) ae rfl (.cons (.one (.clean rfl)) .nil) ?_;rintro r t ⟨rfl,rfl⟩;refine⟨0,8,_,rfl,by simp,tg _,fun m=>?_⟩;simp only[go_sem,List.length_map]))
 refine hK2 _ ?_;clear hK2 K2
 refine aa.ah fun K3 hK3=>?_
 refine aa.ah fun K4 hK4=>?_
 refine aa.region ?_
 simp only[go_sem]
 repeat'((refine ak.ie (mU l ab) ae rfl (.cons (.one (.jA rfl aB (jq l))) .nil) ?_;simp only[go_sem]))
 refine hK4 _ ?_;clear hK4 K4
 refine aa.cond rfl (fun c18=>?_) (fun c18=>?_)
 ·(
   try simp only[dD] at c18
   refine aa.ah fun K5 hK5=>?_
   refine aa.region ?_
   simp only[go_sem]
   refine hK5 _ ?_;clear hK5 K5
   refine aa.ret ?_
   try simp only[go_sem]
   clear hK3 K3
   (exact⟨[],.ax [.any,.v _],rfl,⟨trivial,rfl,trivial⟩,gH (Go.Bk.uL af) aj,rfl⟩))
 ·(
   try simp only[dD] at c18
   refine aa.skip ?_
   refine hK3 _ ?_;clear hK3 K3
   refine aa.ah fun K6 hK6=>?_
   refine aa.region ?_
   simp only[go_sem]
   repeat'((refine ak.ie (vZ l _ ab) ae rfl (.cons (.one (.jA rfl aB (jq l))) (.cons (.one (.clean rfl)) .nil)) ?_;simp only[go_sem]))
   refine hK6 _ ?_;clear hK6 K6
   refine aa.ah fun K7 hK7=>?_
   refine aa.ah fun K8 hK8=>?_
   refine aa.region ?_
   simp only[go_sem]
   refine hK8 _ ?_;clear hK8 K8
   refine aa.cond rfl (fun c24=>?_) (fun c24=>?_)
   ·(
     try simp only[dD] at c24
     refine aa.ah fun K9 hK9=>?_
     refine aa.region ?_
     simp only[go_sem]
     refine hK9 _ ?_;clear hK9 K9
     refine aa.ret ?_
     try simp only[go_sem]
     clear hK7 K7
     (exact⟨[],.ax [.any,.v _],rfl,⟨trivial,rfl,trivial⟩,gH (Go.Bk.si af (v7 af)) aj,rfl⟩))
   ·(
     try simp only[dD] at c24
     refine aa.skip ?_
     refine hK7 _ ?_;clear hK7 K7
     refine aa.ah fun K10 hK10=>?_
     obtain⟨n,o,e,e2,hb,ho⟩:∃n o,gi l a=(n:Nat)∧eC l a=some n∧l[n]?=some o∧o.b9=true:=by
      rcases s9 l a with⟨e,e2⟩|h
      ·exact absurd (show gi l a<0 by omega) af
      ·exact h
     simp only[e]
     have hn:n<l.length:=cz hb
     have hg:=sY hb (spare 8 m)
     refine aa.region ?_
     simp only[go_sem,hg]
     repeat'(((with_reducible refine And.intro ?_ ?_);(focus((omega)));(try simp only[hb,go_sem,hg])))
     refine hK10 _ ?_;clear hK10 K10
     refine aa.ah fun K11 hK11=>?_
     refine aa.region ?_
     simp only[go_sem]
     refine hK11 _ ?_;clear hK11 K11
     refine aa.ah fun K12 hK12=>?_
     refine aa.region ?_
     simp only[go_sem]
     refine hK12 _ ?_;clear hK12 K12
     refine aa.ah fun K13 hK13=>?_
     refine aa.block ?_
     refine aa.ah fun K14 hK14=>?_
     refine aa.region ?_
     simp only[go_sem]
     repeat'((refine ak.one (ou (⟨b,o.acc,o.sym,o.aD,q,p,o.done,decide (o.done<q)⟩:Od)) ae rfl ?_;simp only[go_sem]))
     refine hK14 _ ?_;clear hK14 K14
     refine aa.cond rfl (fun c42=>?_) (fun c42=>?_)
     ·(
       try simp only[dD] at c42
       refine aa.ah fun K15 hK15=>?_
       refine aa.region ?_
       simp only[go_sem]
       refine hK15 _ ?_;clear hK15 K15
       refine aa.ret ?_
       try simp only[go_sem]
       clear hK13 K13
       (exact⟨[],.ax [.any,.v _],rfl,⟨trivial,rfl,trivial⟩,gH (Gh af e2 hb af) aj,rfl⟩))
     ·(
       try simp only[dD] at c42
       refine aa.ah fun K16 hK16=>?_
       refine aa.region ?_
       simp only[go_sem]
       repeat'((refine ak.ie (qZ l _ ab) ae rfl (.cons (.one (.jA rfl aB (jq l))) (.cons (.one (.clean rfl)) .nil)) ?_;simp only[go_sem]))
       refine hK16 _ ?_;clear hK16 K16
       refine aa.cond rfl (fun c47=>?_) (fun c47=>?_)
       ·(
         try simp only[dD] at c47
         refine aa.ah fun K17 hK17=>?_
         refine aa.region ?_
         simp only[go_sem]
         refine hK17 _ ?_;clear hK17 K17
         refine aa.ret ?_
         try simp only[go_sem]
         clear hK13 K13
         (exact⟨[],.ax [.any,.v _],rfl,⟨trivial,rfl,trivial⟩,gH (Go.Bk.uM af e2 hb af af) aj,rfl⟩))
       ·(
         try simp only[dD] at c47
         refine aa.ah fun K18 hK18=>?_
         refine aa.region ?_
         simp only[go_sem]
         repeat'(((with_reducible refine And.intro ?_ ?_);(focus(((simp;done))));(try simp only[hb,go_sem])))
         refine hK18 _ ?_;clear hK18 K18
         refine aa.cond rfl (fun c53=>?_) (fun c53=>?_)
         ·(
           try simp only[dD] at c53
           refine aa.ah fun K19 hK19=>?_
           refine aa.region ?_
           simp only[go_sem]
           refine hK19 _ ?_;clear hK19 K19
           refine aa.ret ?_
           try simp only[go_sem]
           clear hK13 K13
           (exact⟨[],.ax [.any,.v _],rfl,⟨trivial,rfl,trivial⟩,gH (Gi af e2 hb af af ab) aj,rfl⟩))
         ·(
           try simp only[dD] at c53
           refine aa.skip ?_
           refine hK13 _ ?_;clear hK13 K13
           refine aa.ah fun K20 hK20=>?_
           refine aa.region ?_
           simp only[go_sem]
           repeat'(first|(refine aQ.gV af ?_;(try simp only[go_sem]))|((with_reducible refine And.intro ?_ ?_);(focus((omega)));(try simp only[hb,go_sem])))
           refine hK20 _ ?_;clear hK20 K20
           refine aa.ah fun K21 hK21=>?_
           have hrl:=Go.Bk.l9 (l:=l) af
           rw[sZ (o':=⟨o.id,o.acc,o.sym,o.aD,o.au,o.aE,o.done,false⟩) hb (spare 8 m)]
           refine aa.region ?_
           simp only[go_sem]
           repeat'(((with_reducible refine And.intro ?_ ?_);(focus((first|omega|(simp;done)|(simp[da];done))));(try simp only[hb,go_sem])))
           intro m2
           simp only[go_sem,UM]
           refine hK21 _ ?_;clear hK21 K21
           refine aa.oz 10 2 8 (l.length+1) _ ((l.set n ⟨o.id,o.acc,o.sym,o.aD,o.au,o.aE,o.done,false⟩++[(⟨b,o.acc,o.sym,o.aD,q,p,o.done,decide (o.done<q)⟩:Od)]).map bf) (spare 8 m2) rfl (by simp only[List.map_append];rfl) aB (jq _) ?_
           simp only[go_sem]
           refine aa.ret ?_
           try simp only[go_sem]
           (exact⟨[],.ax [.sl none 8 _,.v _],rfl,⟨⟨rfl,rfl⟩,rfl,trivial⟩,kV (Gl af e2 hb af af ab),rfl⟩))))))
def fw(n:Nat):AV→Bool
 |.mu id _ _ _ _=>id !=2&&decide (id<n)
 |.ptr id _ _=>id !=2&&decide (id<n)
 |.any|.v _|.aw|.sl none _ _|.bR _|.fn _ []=>true
 |.sl (some t) _ _=>t==0
 |_=>false
def kp(n:Nat):AV→Bool
 |.agg cs=>cs.all (fw n)
 |x=>fw n x
theorem vz{n:Nat}{σ:Nat→Option Nat}(hσ:∀i,i≠2→i<n→σ i=some i){x:AV}(h:fw n x=true):x.cf σ=x:=by
 cases x<;>simp only[fw,AV.cf,Bool.and_eq_true,bne_iff_ne,decide_eq_true_eq] at h ⊢ <;>first|(rw[hσ _ h.1 h.2])|(simp at h;done)|skip
 case fn f cs=>cases cs<;>simp[fw] at h ⊢
theorem RS{n:Nat}{σ:Nat→Option Nat}(hσ:∀i,i≠2→i<n→σ i=some i){x:AV}(h:kp n x=true):x.cB σ=x:=by
 cases x with
 |agg cs=>
  simp only[kp] at h
  simp only[AV.cB,AV.eZ]
  congr 1
  have:∀y∈cs,y.cf σ=y:=fun y hy=>vz hσ (List.all_eq_true.1 h y hy)
  exact(List.map_congr_left this).trans (List.map_id _)
 |ax cs=>simp[kp,fw] at h
 |fn f cs=>
  cases cs with
  |nil=>rfl
  |cons=>simp[kp,fw] at h
 |mu id k o l c=>simp only[AV.cB,AV.eZ];exact vz hσ h
 |ptr id i o=>simp only[AV.cB,AV.eZ];exact vz hσ h
 |_=>rfl
theorem RQ{n:Nat}{σ:Nat→Option Nat}(hσ:∀i,i≠2→i<n→σ i=some i){l:List AV}(h:l.all (kp n)=true):l.map (AV.cB σ)=l:=
 (List.map_congr_left (fun y hy=>RS hσ (List.all_eq_true.1 h y hy))).trans (List.map_id _)
theorem sM{n no nt:Nat}(h1:n≤no)(h2:1≤nt){x:AV}(h:fw n x=true):x.ei no nt=true:=by
 cases x<;>simp only[fw,AV.ei,Bool.and_eq_true,bne_iff_ne,decide_eq_true_eq] at h ⊢ <;>first|omega|skip
 case sl t k es=>cases t<;>simp[fw,AV.ei] at h ⊢;omega
 case fn f cs=>cases cs<;>simp[fw,AV.ei] at h ⊢
theorem vA{n no nt:Nat}(h1:n≤no)(h2:1≤nt){x:AV}(h:kp n x=true):x.bw no nt=true:=by
 cases x with
 |agg cs=>
  simp only[kp] at h
  simp only[AV.bw,AV.gR]
  exact List.all_eq_true.2 fun y hy=>sM h1 h2 (List.all_eq_true.1 h y hy)
 |ax cs=>simp[kp,fw] at h
 |fn f cs=>
  cases cs with
  |nil=>rfl
  |cons=>simp[kp,fw] at h
 |sl t k es=>exact sM (x:= .sl t k es) h1 h2 h
 |mu id k o l c=>exact sM (x:= .mu id k o l c) h1 h2 h
 |ptr id i o=>exact sM (x:= .ptr id i o) h1 h2 h
 |_=>rfl
def sr(no nt:Nat)(x:AV):AV:=if x.bw no nt then x else .any
theorem Dv{no nt:Nat}:∀l:List AV,jP no nt l (l.map (sr no nt))
 |[]=>trivial
 |x::l=>by
  refine⟨?_,Dv l⟩
  unfold sr
  by_cases h:x.bw no nt=true
  ·rw[if_pos h];exact .inr ⟨rfl,h⟩
  ·rw[if_neg h];exact .inl rfl
def iN(no nt:Nat)(own:List (Option (List AV))):Bool:=own.all fun o=>match o with|none=>true|some es=>es.all fun e=>e.leaves.all (AV.bw no nt)
theorem xj{no nt:Nat}:∀{l:List (Option (List AV))},iN no nt l=true→gn no nt l l
 |[],_=>trivial
 |x::l,h=>by
  simp only[iN,List.all_cons,Bool.and_eq_true] at h
  refine⟨.inr ⟨rfl,fun es hes e he z hz=>?_⟩,xj h.2⟩
  have h1:=h.1
  rw[hes] at h1
  exact List.all_eq_true.1 (List.all_eq_true.1 h1 e he) z hz
theorem aa.dL{E:Env}{c:Code}{Q:Exit→St→Prop}{tmps up:List AV}{own:List (Option (List AV))}{tk:List Nat}{gl:Nat→Option (List AV)}(sel:List Nat)(own':List (Option (List AV)))(tk':List Nat)(n:Nat)(hnd:sel.Nodup)(hσ:∀i,i≠2→i<n→cC sel i=some i)
 (hup:up.all (kp n)=true) (hn:n≤own'.length) (hown:jG own sel=own') (hb:iN own'.length tk'.length own'=true) (htk:jm tk tk') (h0:1≤tk'.length)
 (hw:aa E c Q ⟨(tmps.map (AV.cB (cC sel))).map (sr own'.length tk'.length),own',tk',gl,none,up⟩):aa E c Q ⟨tmps,own,tk,gl,none,up⟩:=by
 refine aa.norm sel hnd rfl (RQ hσ hup) ?_
 refine aa.weaken (t:=⟨(tmps.map (AV.cB (cC sel))).map (sr own'.length tk'.length),own',tk',gl,none,up⟩) ⟨Dv _,?_,htk,rfl,rfl,rfl,List.all_eq_true.2 fun x hx=>vA hn h0 (List.all_eq_true.1 hup x hx)⟩ hw
 show gn _ _ (jG own sel) own'
 rw[hown];exact xj hb
abbrev aT(b:Bk)(m:Nat):AV:= .agg [bz b.aq,.mu 2 9 0 b.av.length (b.av.length+m),.sl (some 0) 1 (b.ids.map str),i64 b.clock,i64 b.bad]
abbrev aR(b:Bk)(m:Nat):List AV:=b.av.map cK++spare 9 m
theorem yO{l:List Dn}{n:Nat}{o:Dn}(h:l[n]?=some o)(sp:List AV):(l.map cK++sp)[n]?=some (cK o):=by
 rw[List.getElem?_append_left (by simpa using cz h),List.getElem?_map,h];rfl
theorem uW{l:List Dn}{n:Nat}{o o':Dn}(h:l[n]?=some o)(sp:List AV):(l.map cK++sp).set n (cK o')=(l.set n o').map cK++sp:=by
 rw[List.set_append_left _ _ (by simpa using cz h),List.map_set]
theorem pd(σ:Nat→Option Nat)(l:List Dn)(m:Nat):(l.map cK++spare 9 m).map (AV.cB σ)=l.map cK++spare 9 m:=by
 rw[List.map_append,List.map_map]
 congr 1
 simp[spare,AV.cB,AV.eZ,AV.cf]
theorem Xu(no nt:Nat)(l:List Dn)(m:Nat):((l.map cK++spare 9 m).all fun e=>e.leaves.all (AV.bw no nt))=true:=by
 rw[List.all_eq_true]
 intro e he
 rcases List.mem_append.1 he with he|he
 ·obtain⟨f,_,rfl⟩:=List.mem_map.1 he;rfl
 ·simp only[spare,List.mem_replicate] at he
  rw[he.2]
  simp[AV.leaves,AV.bw,AV.gR,AV.ei]
theorem DU(f:Dn)(x:Ex):ai E 275 [cK f,.bR [str x.id,str x.ref,str x.ord,str x.acc,str x.sym,i64 x.kind,bl x.aD,i64 x.au,i64 x.aE,i64 x.time]] (fun r t=>r=bl (decide (f.id=x.ref))∧t=[]):=by
 refine ai.aC (n:=9) (rs:=[.tmp 3]) Tryz.func275 rfl Tryz.ntmps275 rfl ?_
 refine aa.ah fun K1 hK1=>?_
 refine aa.region ?_
 simp only[go_sem]
 refine hK1 _ ?_;clear hK1 K1
 refine aa.ah fun K2 hK2=>?_
 refine aa.region ?_
 simp only[go_sem]
 refine hK2 _ ?_;clear hK2 K2
 refine aa.ret ?_
 try simp only[go_sem]
 exact⟨[],.v _,rfl,rfl,by simp_all,rfl⟩
theorem LV(l:List Dn)(x:Ex)(hl:l.length≤9223372036854775807):ai E 274 [dp l,.fn 275 [.bR [str x.id,str x.ref,str x.ord,str x.acc,str x.sym,i64 x.kind,bl x.aD,i64 x.au,i64 x.aE,i64 x.time]]] (fun r t=>r=i64 (ml l x.ref)∧t=[]):=by
 refine ai.aC (n:=19) (rs:=[.tmp 4]) Tryz.func274 rfl Tryz.ntmps274 rfl ?_
 refine aa.ah fun K1 hK1=>?_
 refine aa.region ?_
 simp only[go_sem]
 refine hK1 _ ?_;clear hK1 K1
 refine aa.ah fun K2 hK2=>?_
 refine aa.ah fun K3 hK3=>?_
 refine aa.region ?_
 simp only[go_sem]
 repeat'(((with_reducible refine And.intro ?_ ?_);(focus(((simp;done))));(try simp only[hb,go_sem])))
 refine hK3 _ ?_;clear hK3 K3
 refine aa.block ?_
 refine aa.mN (ι:=Nat) [4,5,9,10,11,12,13,14,15,16,17,18] (fun(i:Nat)=>[(8,i64 i)]) (fun(i:Nat)=>i≤l.length∧(l.take i).all (fun o=>!decide (o.id=x.ref))=true) (fun(i:Nat)=>l.length-i) (0) ?_ ?_ ?_
 ·(try simp only[go_sem]);try(simp;done)
 ·exact⟨by omega,by simp⟩
 rintro i ⟨h1,h2⟩
 simp only[go_sem]
 refine aa.ah fun K4 hK4=>?_
 refine aa.region ?_
 simp only[go_sem]
 refine hK4 _ ?_;clear hK4 K4
 refine aa.ah fun K5 hK5=>?_
 refine aa.cond rfl (fun c9=>?_) (fun c9=>?_)
 ·(
   try simp only[dD] at c9
   refine aa.skip ?_
   refine hK5 _ ?_;clear hK5 K5
   refine aa.ah fun K6 hK6=>?_
   refine aa.block ?_
   refine aa.ah fun K7 hK7=>?_
   refine aa.region ?_
   simp only[go_sem]
   refine hK7 _ ?_;clear hK7 K7
   refine aa.ah fun K8 hK8=>?_
   refine aa.region ?_
   simp only[go_sem]
   repeat'(first|(refine ak.one (DU _ _) ae rfl ?_;simp only[go_sem])|((refine aQ.nth ?_ (fun b hb=>?_));(focus((omega)));(try simp only[hb,go_sem])))
   refine hK8 _ ?_;clear hK8 K8
   refine aa.cond rfl (fun c16=>?_) (fun c16=>?_)
   ·(
     try simp only[dD] at c16
     refine aa.ah fun K9 hK9=>?_
     refine aa.region ?_
     simp only[go_sem]
     refine hK9 _ ?_;clear hK9 K9
     refine aa.ret ?_
     try simp only[go_sem]
     clear hK6 K6 hK2 K2
     (exact⟨[],.v _,rfl,rfl,by rw[E0 hb af h2],rfl⟩))
   ·(
     try simp only[dD] at c16
     refine aa.skip ?_
     refine hK6 _ ?_;clear hK6 K6
     refine aa.region ?_
     simp only[go_sem]
     clear hK2 K2
     refine⟨i+1,?_,?_,?_⟩
     ·(try simp only[go_sem]);(try rw[aM ab ab]);simp
     ·exact⟨by omega,jQ hb h2 (by simp;assumption)⟩
     ·omega))
 ·(
   try simp only[dD] at c9
   refine aa.exit ?_
   simp only[go_sem]
   clear hK5 K5
   refine hK2 _ ?_;clear hK2 K2
   refine aa.ah fun K10 hK10=>?_
   refine aa.region ?_
   simp only[go_sem]
   refine hK10 _ ?_;clear hK10 K10
   refine aa.ret ?_
   try simp only[go_sem]
   (exact⟨[],.v _,rfl,rfl,by rw[EZ ab h2],rfl⟩))
theorem XU(l:List Bs)(id:Bs)(hl:l.length≤9223372036854775807):ai E 252 [.sl none 1 (l.map str),str id] (fun r t=>r=i64 (nT l id)∧t=[]):=by
 refine ai.aC (n:=19) (rs:=[.tmp 4]) Tryz.func252 rfl Tryz.ntmps252 rfl ?_
 refine aa.ah fun K1 hK1=>?_
 refine aa.region ?_
 simp only[go_sem]
 refine hK1 _ ?_;clear hK1 K1
 refine aa.ah fun K2 hK2=>?_
 refine aa.ah fun K3 hK3=>?_
 refine aa.region ?_
 simp only[go_sem]
 repeat'(((with_reducible refine And.intro ?_ ?_);(focus(((simp;done))));(try simp only[hb,go_sem])))
 refine hK3 _ ?_;clear hK3 K3
 refine aa.block ?_
 refine aa.mN (ι:=Nat) [4,5,9,10,11,12,13,14,15,16,17,18] (fun(i:Nat)=>[(8,i64 i)]) (fun(i:Nat)=>i≤l.length∧(l.take i).all (fun s=>!decide (id=s))=true) (fun(i:Nat)=>l.length-i) (0) ?_ ?_ ?_
 ·(try simp only[go_sem]);try(simp;done)
 ·exact⟨by omega,by simp⟩
 rintro i ⟨h1,h2⟩
 simp only[go_sem]
 refine aa.ah fun K4 hK4=>?_
 refine aa.region ?_
 simp only[go_sem]
 refine hK4 _ ?_;clear hK4 K4
 refine aa.ah fun K5 hK5=>?_
 refine aa.cond rfl (fun c9=>?_) (fun c9=>?_)
 ·(
   try simp only[dD] at c9
   refine aa.skip ?_
   refine hK5 _ ?_;clear hK5 K5
   refine aa.ah fun K6 hK6=>?_
   refine aa.block ?_
   refine aa.ah fun K7 hK7=>?_
   refine aa.region ?_
   simp only[go_sem]
   refine hK7 _ ?_;clear hK7 K7
   refine aa.ah fun K8 hK8=>?_
   refine aa.region ?_
   simp only[go_sem]
   repeat'(((refine aQ.nth ?_ (fun b hb=>?_));(focus((omega)));(try simp only[hb,go_sem])))
   refine hK8 _ ?_;clear hK8 K8
   refine aa.cond rfl (fun c16=>?_) (fun c16=>?_)
   ·(
     try simp only[dD] at c16
     refine aa.ah fun K9 hK9=>?_
     refine aa.region ?_
     simp only[go_sem]
     refine hK9 _ ?_;clear hK9 K9
     refine aa.ret ?_
     try simp only[go_sem]
     clear hK6 K6 hK2 K2
     (exact⟨[],.v _,rfl,rfl,by rw[Qz hb af h2],rfl⟩))
   ·(
     try simp only[dD] at c16
     refine aa.skip ?_
     refine hK6 _ ?_;clear hK6 K6
     refine aa.region ?_
     simp only[go_sem]
     clear hK2 K2
     refine⟨i+1,?_,?_,?_⟩
     ·(try simp only[go_sem]);(try rw[aM ab ab]);simp
     ·exact⟨by omega,jQ hb h2 (by simp;assumption)⟩
     ·omega))
 ·(
   try simp only[dD] at c9
   refine aa.exit ?_
   simp only[go_sem]
   clear hK5 K5
   refine hK2 _ ?_;clear hK2 K2
   refine aa.ah fun K10 hK10=>?_
   refine aa.region ?_
   simp only[go_sem]
   refine hK10 _ ?_;clear hK10 K10
   refine aa.ret ?_
   try simp only[go_sem]
   (exact⟨[],.v _,rfl,rfl,by rw[Qy ab h2],rfl⟩))
theorem XE(l:List Bs)(id:Bs)(hl:l.length≤9223372036854775807):ai E 210 [.sl none 1 (l.map str),str id] (fun r t=>r=bl (nS l id)∧t=[]):=by
 refine ai.aC (n:=9) (rs:=[.tmp 4]) Tryz.func210 rfl Tryz.ntmps210 rfl ?_
 refine aa.ah fun K1 hK1=>?_
 refine aa.region ?_
 simp only[go_sem]
 refine hK1 _ ?_;clear hK1 K1
 refine aa.ah fun K2 hK2=>?_
 refine aa.region ?_
 simp only[go_sem]
 repeat'((refine ak.one (XU _ _ ab) ae rfl ?_;simp only[go_sem]))
 refine hK2 _ ?_;clear hK2 K2
 refine aa.ret ?_
 try simp only[go_sem]
 exact⟨[],.v _,rfl,rfl,rfl,rfl⟩
theorem u9{b:Bk}{x:Ex}(h:(dF b.aq x.ord x.au x.aE).2=0):ek b x=(⟨(dF b.aq x.ord x.au x.aE).1,b.av++[pe x],b.ids,b.clock,b.bad⟩,0):=by unfold ek;simp[h]
theorem OH{b:Bk}{x:Ex}(h:(dF b.aq x.ord x.au x.aE).2=1):ek b x=(b,4):=by unfold ek;simp[h]
theorem OJ{b:Bk}{x:Ex}(h:(dF b.aq x.ord x.au x.aE).2=9):ek b x=(b,5):=by unfold ek;simp[h]
theorem OI{b:Bk}{x:Ex}(h0:¬(dF b.aq x.ord x.au x.aE).2=0)(h1:¬(dF b.aq x.ord x.au x.aE).2=1)(h:¬(dF b.aq x.ord x.au x.aE).2=9):ek b x=(b,2):=by unfold ek;simp[h0,h1,h]
abbrev Z0:Option (List AV):=some [.agg [.aw,.aw,.aw,i64 0,i64 0]]
theorem jH:∀i,i≠2→i<6→cC [0,1,2,3,4,5] i=some i:=by
 intro i h1 h2
 have:i=0∨i=1∨i=3∨i=4∨i=5:=by omega
 rcases this with rfl|rfl|rfl|rfl|rfl<;>rfl
theorem XK:∀i,i≠2→i<6→cC [0,1,7,3,4,5] i=some i:=by
 intro i h1 h2
 have:i=0∨i=1∨i=3∨i=4∨i=5:=by omega
 rcases this with rfl|rfl|rfl|rfl|rfl<;>rfl
theorem yQ{l:List Dn}(sp:List AV):(l.map cK++sp).take l.length=l.map cK:=List.take_left' aB
theorem Xs(σ:Nat→Option Nat)(l:List Dn)(d:Dn)(m:Nat):(l.map cK++[cK d]++spare 9 m).map (AV.cB σ)=(l++[d]).map cK++spare 9 m:=by
 rw[show l.map cK++[cK d]=(l++[d]).map cK by simp,pd]
theorem j6{b:Bk}{m:Nat}{x:Ex}{rest:List (Option (List AV))}:jG (Z0::some [aT b m]::some (aR b m)::some [ao x]::some [ao x]::some [ao x]::rest) [0,1,2,3,4,5]=[Z0,some [aT b m],some (aR b m),some [ao x],some [ao x],some [ao x]]:=by
 show[Z0,some [aT b m],some ((aR b m).map _),some [ao x],some [ao x],some [ao x]]=_
 rw[pd]
theorem Vu{os:List Od}{l:List Dn}{d:Dn}{k c m:Nat}{ids y1 y2:AV}{x:Ex}{bx:Option (List AV)}(hi:ids.cf (cC [0,1,7,3,4,5])=ids)(h1:y1.cf (cC [0,1,7,3,4,5])=y1)(h2:y2.cf (cC [0,1,7,3,4,5])=y2):
 jG [Z0,some [.agg [bz os,.mu 7 9 0 k c,ids,y1,y2]],none,some [ao x],some [ao x],some [ao x],bx,some (l.map cK++[cK d]++spare 9 m)] [0,1,7,3,4,5] =
  [Z0,some [.agg [bz os,.mu 2 9 0 k c,ids,y1,y2]],some ((l++[d]).map cK++spare 9 m),some [ao x],some [ao x],some [ao x]]:=by
 show[Z0,some [.agg [bz os,.mu 2 9 0 k c,ids.cf _,y1.cf _,y2.cf _]],some ((l.map cK++[cK d]++spare 9 m).map _),some [ao x],some [ao x],some [ao x]]=_
 rw[Xs,hi,h1,h2]
theorem wc(no:Nat){b:Bk}{m:Nat}{l:List (Option (List AV))}(hno:3≤no)(hl:iN no 1 l=true):iN no 1 (Z0::some [aT b m]::some (aR b m)::l)=true:=by
 have h2:decide (2<no)=true:=decide_eq_true ab
 have hr:((aR b m).all fun e=>e.leaves.all (AV.bw no 1))=true:=Xu no 1 b.av m
 unfold iN at hl ⊢
 rw[List.all_cons,List.all_cons,List.all_cons]
 simp only[Bool.and_eq_true]
 refine⟨rfl,?_,hr,hl⟩
 show((true&&(decide (2<no)&&(true&&(true&&(true&&true)))))&&true)=true
 rw[h2];rfl
theorem hP{b:Bk}{m:Nat}{x:Ex}:iN 6 1 [Z0,some [aT b m],some (aR b m),some [ao x],some [ao x],some [ao x]]=true:=wc 6 aj rfl
theorem iB{b:Bk}{m:Nat}{x:Ex}:iN 5 1 [Z0,some [aT b m],some (aR b m),some [ao x],some [ao x]]=true:=wc 5 aj rfl
theorem q6{b:Bk}{m:Nat}{x:Ex}:iN 4 1 [Z0,some [aT b m],some (aR b m),some [ao x]]=true:=wc 4 aj rfl
set_option maxRecDepth 100000 in
theorem OO{ops:Array Oper}{l:List Oper}{Q:Exit→St→Prop}{tmps up:List AV}{gl:Nat→Option (List AV)}{b:Bk}{x:Ex}{m:Nat}{dst:Option Tmp}{x0 x1:Operand}{tys:Array TypeId}{ty:TypeId}{pos:String}{after:Array Edge}
 (hx0:St.ev ⟨tmps,[Z0,some [aT b m],some (aR b m),some [ao x],some [ao x],some [ao x]],[b.ids.length],gl,none,up⟩ x0= .ptr 1 0 0) (hx1:St.ev ⟨tmps,[Z0,some [aT b m],some (aR b m),some [ao x],some [ao x],some [ao x]],[b.ids.length],gl,none,up⟩ x1=ao x)
 (hq:x.au≤4611686018427387904) (ho:b.aq.length≤1000000) (hf:b.av.length≤1000000) (hup:(tmps++up).all (kp 6)=true)
 (h:∀(b':Bk) (e:Int) (m':Nat),ek b x=(b',e)→al E ops l Q (St.put ⟨tmps,[Z0,some [aT b' m'],some (aR b' m'),some [ao x],some [ao x],some [ao x]],[b'.ids.length],gl,none,up⟩ dst (i64 e))):
 al E ops (⟨dst,.call ⟨.value (.func 255),#[x0,x1],tys⟩,ty,pos,after,none⟩::l) Q ⟨tmps,[Z0,some [aT b m],some (aR b m),some [ao x],some [ao x],some [ao x]],[b.ids.length],gl,none,up⟩:=by
 refine al.call (caps:=[]) (rs:=[.tmp 4]) Tryz.func255 rfl Tryz.ntmps255 rfl ae rfl rfl ?_
 show aa E _ _ ⟨([St.ev ⟨tmps,[Z0,some [aT b m],some (aR b m),some [ao x],some [ao x],some [ao x]],[b.ids.length],gl,none,up⟩ x0,St.ev ⟨tmps,[Z0,some [aT b m],some (aR b m),some [ao x],some [ao x],some [ao x]],[b.ids.length],gl,none,up⟩ x1]++[])++List.replicate (58-2) (.v undef),[Z0,some [aT b m],some (aR b m),some [ao x],some [ao x],some [ao x]],[b.ids.length],gl,none,tmps++up⟩
 rw[hx0,hx1]
 have hK:∀(tm:List AV) (ow:List (Option (List AV))) (tk:List Nat) (b':Bk) (e:Int) (m':Nat),ek b x=(b',e)→ow=[Z0,some [aT b' m'],some (aR b' m'),some [ao x],some [ao x],some [ao x]]→tk=[b'.ids.length]→tm[4]?=some (i64 e)→bW E.P [.tmp 4] ⟨tmps,[Z0,some [aT b m],some (aR b m),some [ao x],some [ao x],some [ao x]],[b.ids.length],gl,none,up⟩ (fun s z=>al E ops l Q (s.put dst z)) .ret ⟨tm,ow,tk,gl,none,tmps++up⟩:=by
  intro tm ow tk b' e m' hb' how htk h4
  subst how;subst htk
  refine⟨rfl,?_⟩
  have:St.ev ⟨tm,[Z0,some [aT b' m'],some (aR b' m'),some [ao x],some [ao x],some [ao x]],[b'.ids.length],gl,none,tmps++up⟩ (.tmp 4)=i64 e:=by simp[St.ev,List.getD_eq_getElem?_getD,h4]
  show al E ops l Q (St.put _ dst (fB [St.ev _ (.tmp 4)]))
  rw[this]
  exact h b' e m' hb'
 generalize bW E.P [.tmp 4] ⟨tmps,[Z0,some [aT b m],some (aR b m),some [ao x],some [ao x],some [ao x]],[b.ids.length],gl,none,up⟩ (fun s z=>al E ops l Q (s.put dst z))=Q' at hK ⊢
 generalize tmps++up=up' at hup hK ⊢
 clear h hx0 hx1
 refine aa.ah fun K1 hK1=>?_
 refine aa.region ?_
 simp only[go_sem]
 refine hK1 _ ?_;clear hK1 K1
 refine aa.ah fun K2 hK2=>?_
 refine aa.bB [0,1,2,3,4,5,6,7,8,9,10,11,12,13,14,15] [] ae ae rfl ?_
 simp only[go_sem]
 repeat'((refine ak.of (UY b.aq x.ord x.au x.aE hq ab) ae rfl ?_;rintro r t ⟨⟨y,rfl,hy⟩,rfl⟩<;>simp only[go_sem]))
 refine hK2 _ ?_;clear hK2 K2
 refine aa.ah fun K3 hK3=>?_
 refine aa.ah fun K4 hK4=>?_
 refine aa.region ?_
 simp only[go_sem]
 refine hK4 _ ?_;clear hK4 K4
 refine aa.block ?_
 refine aa.ah fun K5 hK5=>?_
 refine aa.region ?_
 simp only[go_sem]
 refine hK5 _ ?_;clear hK5 K5
 refine aa.cond rfl (fun c22=>?_) (fun c22=>?_)
 ·(
   try simp only[dD] at c22
   refine aa.skip ?_
   refine hK3 _ ?_;clear hK3 K3
   refine aa.ah fun K6 hK6=>?_
   have hx9:=hy af
   subst hx9
   refine aa.region ?_
   simp only[go_sem]
   refine hK6 _ ?_;clear hK6 K6
   refine aa.ah fun K7 hK7=>?_
   refine aa.bB [0,1,2,3,4,5,6,7,8,9,10,11,12,13,14,15,16,17,18,19,20,21,22,23,24,25,26] [] ae ae rfl ?_
   simp only[go_sem]
   repeat'(((with_reducible refine And.intro ?_ ?_);(focus((first|omega|(simp;done)|(simp[da];done))));(try simp only[hb,go_sem])))
   intro m2
   simp only[go_sem,yQ]
   refine hK7 _ ?_;clear hK7 K7
   refine aa.ah fun K8 hK8=>?_
   refine aa.region ?_
   simp only[go_sem]
   refine hK8 _ ?_;clear hK8 K8
   refine aa.dL [0,1,7,3,4,5] [Z0,some [aT (ek b x).1 m2],some (aR (ek b x).1 m2),some [ao x],some [ao x],some [ao x]] [b.ids.length] 6 aj XK hup (Nat.le_refl _) (by rw[u9 af];exact(Vu (d:=pe x) rfl rfl rfl).trans (by simp[aR])) hP ⟨rfl,trivial⟩ (Nat.le_refl _) ?_
   refine aa.ret ?_
   try simp only[go_sem]
   (exact hK _ _ _ (ek b x).1 0 m2 (by rw[u9 af]) rfl (by rw[u9 af]) rfl))
 ·(
   try simp only[dD] at c22
   refine aa.ah fun K9 hK9=>?_
   refine aa.region ?_
   simp only[go_sem]
   refine hK9 _ ?_;clear hK9 K9
   refine aa.cond rfl (fun c24=>?_) (fun c24=>?_)
   ·(
     try simp only[dD] at c24
     refine aa.ah fun K10 hK10=>?_
     refine aa.region ?_
     simp only[go_sem]
     refine hK10 _ ?_;clear hK10 K10
     refine aa.dL [0,1,2,3,4,5] [Z0,some [aT b m],some (aR b m),some [ao x],some [ao x],some [ao x]] [b.ids.length] 6 aj jH hup (Nat.le_refl _) j6 hP ⟨rfl,trivial⟩ (Nat.le_refl _) ?_
     refine aa.ret ?_
     try simp only[go_sem]
     clear hK3 K3
     (exact hK _ _ _ b _ m (OH af) rfl rfl rfl))
   ·(
     try simp only[dD] at c24
     refine aa.ah fun K11 hK11=>?_
     refine aa.region ?_
     simp only[go_sem]
     refine hK11 _ ?_;clear hK11 K11
     refine aa.cond rfl (fun c26=>?_) (fun c26=>?_)
     ·(
       try simp only[dD] at c26
       refine aa.ah fun K12 hK12=>?_
       refine aa.region ?_
       simp only[go_sem]
       refine hK12 _ ?_;clear hK12 K12
       refine aa.dL [0,1,2,3,4,5] [Z0,some [aT b m],some (aR b m),some [ao x],some [ao x],some [ao x]] [b.ids.length] 6 aj jH hup (Nat.le_refl _) j6 hP ⟨rfl,trivial⟩ (Nat.le_refl _) ?_
       refine aa.ret ?_
       try simp only[go_sem]
       clear hK3 K3
       (exact hK _ _ _ b _ m (OJ af) rfl rfl rfl))
     ·(
       try simp only[dD] at c26
       refine aa.ah fun K13 hK13=>?_
       refine aa.region ?_
       simp only[go_sem]
       refine hK13 _ ?_;clear hK13 K13
       refine aa.dL [0,1,2,3,4,5] [Z0,some [aT b m],some (aR b m),some [ao x],some [ao x],some [ao x]] [b.ids.length] 6 aj jH hup (Nat.le_refl _) j6 hP ⟨rfl,trivial⟩ (Nat.le_refl _) ?_
       refine aa.ret ?_
       try simp only[go_sem]
       clear hK3 K3
       (exact hK _ _ _ b _ m (OI af af af) rfl rfl rfl))))
theorem wC{b:Bk}{x:Ex}(h:(dE b.aq x.ref x.ord x.au x.aE).2=0):eJ b x=(⟨(dE b.aq x.ref x.ord x.au x.aE).1,b.av,b.ids,b.clock,b.bad⟩,0):=by unfold eJ;simp[h]
theorem WD{b:Bk}{x:Ex}(h:(dE b.aq x.ref x.ord x.au x.aE).2=1):eJ b x=(b,4):=by unfold eJ;simp[h]
theorem WE{b:Bk}{x:Ex}(h0:¬(dE b.aq x.ref x.ord x.au x.aE).2=0)(h1:¬(dE b.aq x.ref x.ord x.au x.aE).2=1):eJ b x=(b,2):=by unfold eJ;simp[h0,h1]
theorem DR{b:Bk}{x:Ex}(h:gv b.av x.ref=none):cV b x=(b,6):=by unfold cV;simp[h]
section
variable{b:Bk}{x:Ex}{n:Nat}{f:Dn}(e2:gv b.av x.ref=some n)(hb:b.av[n]?=some f)
include e2 hb
theorem DS(h:f.live=false):cV b x=(b,6):=by unfold cV;simp[e2,hb,h]
theorem DT(h:10<x.time-f.time):cV b x=(b,6):=by unfold cV;simp[e2,hb,h]
variable(hl:f.live=true)(ht:¬10<x.time-f.time)
include hl ht
theorem r7(h:f.ord≠x.ord∨f.acc≠x.acc∨f.sym≠x.sym∨f.aD≠x.aD):cV b x=(b,3):=by
 unfold cV;simp only[e2,pk hb]
 rw[if_neg (by simp[hl];omega),if_pos h]
variable(h1:f.ord=x.ord)(h2:f.acc=x.acc)(h3:f.sym=x.sym)(h4:f.aD=x.aD)
include h1 h2 h3 h4
theorem uh(h:x.kind=7):cV b x=(⟨b.aq,b.av.set n ⟨f.id,f.ord,f.acc,f.sym,f.aD,f.au,f.aE,f.time,false⟩,b.ids,b.clock,b.bad⟩,0):=by
 unfold cV;simp only[e2,pk hb]
 rw[if_neg (by simp[hl];omega),if_neg (by simp[h1,h2,h3,h4]),if_pos h]
variable(h5:¬x.kind=7)
include h5
theorem DQ(h:f.au<x.au):cV b x=(b,4):=by
 unfold cV;simp only[e2,pk hb]
 rw[if_neg (by simp[hl];omega),if_neg (by simp[h1,h2,h3,h4]),if_neg h5,if_pos h]
variable(h6:¬f.au<x.au)
include h6
theorem xE(h:(findF b.aq f.ord).2=false∨iy { (findF b.aq f.ord).1 with aD:=f.aD } x.aE=false):cV b x=(b,5):=by
 unfold cV;simp only[e2,pk hb]
 rw[if_neg (by simp[hl];omega),if_neg (by simp[h1,h2,h3,h4]),if_neg h5,if_neg h6,if_pos h]
theorem ui(h7:(findF b.aq f.ord).2=true)(h8:iy { (findF b.aq f.ord).1 with aD:=f.aD } x.aE=true):cV b x=(⟨b.aq,b.av.set n ⟨f.id,f.ord,f.acc,f.sym,f.aD,x.au,x.aE,f.time,f.live⟩,b.ids,b.clock,b.bad⟩,0):=by
 unfold cV;simp only[e2,pk hb]
 rw[if_neg (by simp[hl];omega),if_neg (by simp[h1,h2,h3,h4]),if_neg h5,if_neg h6,if_neg (by simp[h7,h8])]
end
theorem we{os ids y1 y2:AV}{k c m:Nat}{l:List Dn}{x:Ex}{rest:List (Option (List AV))}(h0:os.cf (cC [0,1,2,3,4,5])=os)(hi:ids.cf (cC [0,1,2,3,4,5])=ids)(h1:y1.cf (cC [0,1,2,3,4,5])=y1)(h2:y2.cf (cC [0,1,2,3,4,5])=y2):
 jG (Z0::some [.agg [os,.mu 2 9 0 k c,ids,y1,y2]]::some (l.map cK++spare 9 m)::some [ao x]::some [ao x]::some [ao x]::rest) [0,1,2,3,4,5]=[Z0,some [.agg [os,.mu 2 9 0 k c,ids,y1,y2]],some (l.map cK++spare 9 m),some [ao x],some [ao x],some [ao x]]:=by
 show[Z0,some [.agg [os.cf _,.mu 2 9 0 k c,ids.cf _,y1.cf _,y2.cf _]],some ((l.map cK++spare 9 m).map _),some [ao x],some [ao x],some [ao x]]=_
 rw[pd,h0,hi,h1,h2]
theorem abH{a b:Int}(h1:0≤a∧a≤4611686018427387904)(h2:0≤b∧b≤4611686018427387904):IntKind.i64.wrap (a-b)=a-b:=aM ab ab
set_option maxRecDepth 100000 in
theorem WY{ops:Array Oper}{l:List Oper}{Q:Exit→St→Prop}{tmps up:List AV}{gl:Nat→Option (List AV)}{b:Bk}{x:Ex}{m:Nat}{dst:Option Tmp}{x0 x1:Operand}{tys:Array TypeId}{ty:TypeId}{pos:String}{after:Array Edge}
 (hx0:St.ev ⟨tmps,[Z0,some [aT b m],some (aR b m),some [ao x],some [ao x],some [ao x]],[b.ids.length],gl,none,up⟩ x0= .ptr 1 0 0) (hx1:St.ev ⟨tmps,[Z0,some [aT b m],some (aR b m),some [ao x],some [ao x],some [ao x]],[b.ids.length],gl,none,up⟩ x1=ao x)
  (ho:b.aq.length≤1000000) (hf:b.av.length≤1000000) (hup:(tmps++up).all (kp 6)=true)
 (h:∀(b':Bk) (e:Int) (m':Nat),eJ b x=(b',e)→al E ops l Q (St.put ⟨tmps,[Z0,some [aT b' m'],some (aR b' m'),some [ao x],some [ao x],some [ao x]],[b'.ids.length],gl,none,up⟩ dst (i64 e))):
 al E ops (⟨dst,.call ⟨.value (.func 256),#[x0,x1],tys⟩,ty,pos,after,none⟩::l) Q ⟨tmps,[Z0,some [aT b m],some (aR b m),some [ao x],some [ao x],some [ao x]],[b.ids.length],gl,none,up⟩:=by
 refine al.call (caps:=[]) (rs:=[.tmp 4]) Tryz.func256 rfl Tryz.ntmps256 rfl ae rfl rfl ?_
 show aa E _ _ ⟨([St.ev ⟨tmps,[Z0,some [aT b m],some (aR b m),some [ao x],some [ao x],some [ao x]],[b.ids.length],gl,none,up⟩ x0,St.ev ⟨tmps,[Z0,some [aT b m],some (aR b m),some [ao x],some [ao x],some [ao x]],[b.ids.length],gl,none,up⟩ x1]++[])++List.replicate (32-2) (.v undef),[Z0,some [aT b m],some (aR b m),some [ao x],some [ao x],some [ao x]],[b.ids.length],gl,none,tmps++up⟩
 rw[hx0,hx1]
 have hK:∀(tm:List AV) (ow:List (Option (List AV))) (tk:List Nat) (b':Bk) (e:Int) (m':Nat),eJ b x=(b',e)→ow=[Z0,some [aT b' m'],some (aR b' m'),some [ao x],some [ao x],some [ao x]]→tk=[b'.ids.length]→tm[4]?=some (i64 e)→bW E.P [.tmp 4] ⟨tmps,[Z0,some [aT b m],some (aR b m),some [ao x],some [ao x],some [ao x]],[b.ids.length],gl,none,up⟩ (fun s z=>al E ops l Q (s.put dst z)) .ret ⟨tm,ow,tk,gl,none,tmps++up⟩:=by
  intro tm ow tk b' e m' hb' how htk h4
  subst how;subst htk
  refine⟨rfl,?_⟩
  have:St.ev ⟨tm,[Z0,some [aT b' m'],some (aR b' m'),some [ao x],some [ao x],some [ao x]],[b'.ids.length],gl,none,tmps++up⟩ (.tmp 4)=i64 e:=by simp[St.ev,List.getD_eq_getElem?_getD,h4]
  show al E ops l Q (St.put _ dst (fB [St.ev _ (.tmp 4)]))
  rw[this]
  exact h b' e m' hb'
 generalize bW E.P [.tmp 4] ⟨tmps,[Z0,some [aT b m],some (aR b m),some [ao x],some [ao x],some [ao x]],[b.ids.length],gl,none,up⟩ (fun s z=>al E ops l Q (s.put dst z))=Q' at hK ⊢
 generalize tmps++up=up' at hup hK ⊢
 clear h hx0 hx1
 refine aa.ah fun K1 hK1=>?_
 refine aa.region ?_
 simp only[go_sem]
 refine hK1 _ ?_;clear hK1 K1
 refine aa.ah fun K2 hK2=>?_
 refine aa.bB [0,1,2,3,4,5,6,7,8,9,10,11,12,13,14,15,16,17] [] ae ae rfl ?_
 simp only[go_sem]
 repeat'((refine ak.of (UK b.aq x.ref x.ord x.au x.aE ab) ae rfl ?_;rintro r t ⟨⟨y,rfl,hy⟩,rfl⟩<;>simp only[go_sem]))
 refine hK2 _ ?_;clear hK2 K2
 refine aa.ah fun K3 hK3=>?_
 refine aa.ah fun K4 hK4=>?_
 refine aa.region ?_
 simp only[go_sem]
 refine hK4 _ ?_;clear hK4 K4
 refine aa.block ?_
 refine aa.ah fun K5 hK5=>?_
 refine aa.region ?_
 simp only[go_sem]
 refine hK5 _ ?_;clear hK5 K5
 refine aa.cond rfl (fun c24=>?_) (fun c24=>?_)
 ·(
   try simp only[dD] at c24
   refine aa.skip ?_
   refine hK3 _ ?_;clear hK3 K3
   refine aa.ah fun K6 hK6=>?_
   have hx9:=hy af
   subst hx9
   refine aa.region ?_
   simp only[go_sem]
   refine hK6 _ ?_;clear hK6 K6
   refine aa.ah fun K7 hK7=>?_
   refine aa.region ?_
   simp only[go_sem]
   refine hK7 _ ?_;clear hK7 K7
   refine aa.dL [0,1,2,3,4,5] [Z0,some [aT (eJ b x).1 m],some (aR (eJ b x).1 m),some [ao x],some [ao x],some [ao x]] [b.ids.length] 6 aj jH hup (Nat.le_refl _) (by rw[wC af];exact we rfl rfl rfl rfl) hP ⟨rfl,trivial⟩ (Nat.le_refl _) ?_
   refine aa.ret ?_
   try simp only[go_sem]
   (exact hK _ _ _ (eJ b x).1 0 m (by rw[wC af]) rfl (by rw[wC af]) rfl))
 ·(
   try simp only[dD] at c24
   refine aa.ah fun K8 hK8=>?_
   refine aa.region ?_
   simp only[go_sem]
   refine hK8 _ ?_;clear hK8 K8
   refine aa.cond rfl (fun c26=>?_) (fun c26=>?_)
   ·(
     try simp only[dD] at c26
     refine aa.ah fun K9 hK9=>?_
     refine aa.region ?_
     simp only[go_sem]
     refine hK9 _ ?_;clear hK9 K9
     refine aa.dL [0,1,2,3,4,5] [Z0,some [aT b m],some (aR b m),some [ao x],some [ao x],some [ao x]] [b.ids.length] 6 aj jH hup (Nat.le_refl _) j6 hP ⟨rfl,trivial⟩ (Nat.le_refl _) ?_
     refine aa.ret ?_
     try simp only[go_sem]
     clear hK3 K3
     (exact hK _ _ _ b _ m (WD af) rfl rfl rfl))
   ·(
     try simp only[dD] at c26
     refine aa.ah fun K10 hK10=>?_
     refine aa.region ?_
     simp only[go_sem]
     refine hK10 _ ?_;clear hK10 K10
     refine aa.dL [0,1,2,3,4,5] [Z0,some [aT b m],some (aR b m),some [ao x],some [ao x],some [ao x]] [b.ids.length] 6 aj jH hup (Nat.le_refl _) j6 hP ⟨rfl,trivial⟩ (Nat.le_refl _) ?_
     refine aa.ret ?_
     try simp only[go_sem]
     clear hK3 K3
     (exact hK _ _ _ b _ m (WE af af) rfl rfl rfl)))
set_option maxRecDepth 100000 in
theorem xF{ops:Array Oper}{l:List Oper}{Q:Exit→St→Prop}{tmps up:List AV}{gl:Nat→Option (List AV)}{b:Bk}{x:Ex}{m:Nat}{dst:Option Tmp}{x0 x1:Operand}{tys:Array TypeId}{ty:TypeId}{pos:String}{after:Array Edge}
 (hx0:St.ev ⟨tmps,[Z0,some [aT b m],some (aR b m),some [ao x],some [ao x],some [ao x]],[b.ids.length],gl,none,up⟩ x0= .ptr 1 0 0) (hx1:St.ev ⟨tmps,[Z0,some [aT b m],some (aR b m),some [ao x],some [ao x],some [ao x]],[b.ids.length],gl,none,up⟩ x1=ao x)
 (htx:0≤x.time∧x.time≤4611686018427387904) (htf:∀f∈b.av,0≤f.time∧f.time≤4611686018427387904) (ho:b.aq.length≤1000000) (hf:b.av.length≤1000000) (hup:(tmps++up).all (kp 6)=true)
 (h:∀(b':Bk) (e:Int) (m':Nat),cV b x=(b',e)→al E ops l Q (St.put ⟨tmps,[Z0,some [aT b' m'],some (aR b' m'),some [ao x],some [ao x],some [ao x]],[b'.ids.length],gl,none,up⟩ dst (i64 e))):
 al E ops (⟨dst,.call ⟨.value (.func 254),#[x0,x1],tys⟩,ty,pos,after,none⟩::l) Q ⟨tmps,[Z0,some [aT b m],some (aR b m),some [ao x],some [ao x],some [ao x]],[b.ids.length],gl,none,up⟩:=by
 refine al.call (caps:=[]) (rs:=[.tmp 4]) Tryz.func254 rfl Tryz.ntmps254 rfl ae rfl rfl ?_
 show aa E _ _ ⟨([St.ev ⟨tmps,[Z0,some [aT b m],some (aR b m),some [ao x],some [ao x],some [ao x]],[b.ids.length],gl,none,up⟩ x0,St.ev ⟨tmps,[Z0,some [aT b m],some (aR b m),some [ao x],some [ao x],some [ao x]],[b.ids.length],gl,none,up⟩ x1]++[])++List.replicate (130-2) (.v undef),[Z0,some [aT b m],some (aR b m),some [ao x],some [ao x],some [ao x]],[b.ids.length],gl,none,tmps++up⟩
 rw[hx0,hx1]
 have hK:∀(tm:List AV) (ow:List (Option (List AV))) (tk:List Nat) (b':Bk) (e:Int) (m':Nat),cV b x=(b',e)→ow=[Z0,some [aT b' m'],some (aR b' m'),some [ao x],some [ao x],some [ao x]]→tk=[b'.ids.length]→tm[4]?=some (i64 e)→bW E.P [.tmp 4] ⟨tmps,[Z0,some [aT b m],some (aR b m),some [ao x],some [ao x],some [ao x]],[b.ids.length],gl,none,up⟩ (fun s z=>al E ops l Q (s.put dst z)) .ret ⟨tm,ow,tk,gl,none,tmps++up⟩:=by
  intro tm ow tk b' e m' hb' how htk h4
  subst how;subst htk
  refine⟨rfl,?_⟩
  have:St.ev ⟨tm,[Z0,some [aT b' m'],some (aR b' m'),some [ao x],some [ao x],some [ao x]],[b'.ids.length],gl,none,tmps++up⟩ (.tmp 4)=i64 e:=by simp[St.ev,List.getD_eq_getElem?_getD,h4]
  show al E ops l Q (St.put _ dst (fB [St.ev _ (.tmp 4)]))
  rw[this]
  exact h b' e m' hb'
 generalize bW E.P [.tmp 4] ⟨tmps,[Z0,some [aT b m],some (aR b m),some [ao x],some [ao x],some [ao x]],[b.ids.length],gl,none,up⟩ (fun s z=>al E ops l Q (s.put dst z))=Q' at hK ⊢
 generalize tmps++up=up' at hup hK ⊢
 clear h hx0 hx1
 refine aa.ah fun K1 hK1=>?_
 refine aa.region ?_
 simp only[go_sem]
 refine hK1 _ ?_;clear hK1 K1
 refine aa.ah fun K2 hK2=>?_
 refine aa.region ?_
 simp only[go_sem]
 repeat'((refine ak.ie (LV b.av x ab) ae rfl (.cons (.one (.jA rfl aB (sj _))) (.cons (.fn (.cons (.ptr (e:=ao x) rfl (Kz x)) .nil)) .nil)) ?_;simp only[go_sem]))
 refine hK2 _ ?_;clear hK2 K2
 refine aa.ah fun K3 hK3=>?_
 refine aa.ah fun K4 hK4=>?_
 rcases EY b.av x.ref with⟨e,e2⟩|⟨n,f,e,e2,hb⟩<;>simp only[e]
 all_goals first|have hn:n<b.av.length:=cz hb|skip
 all_goals first|have hg:=yO hb (spare 9 m)|have hg:True:=trivial
 all_goals first|have hw:=abH htx (htf f (List.mem_of_getElem? hb))|have hw:True:=trivial
 all_goals(
  refine aa.bB [0,1,2,3,4,5,6,7,8,9,10,11,12,13,14,15,16,17,18,19,20,21,22,23,24,25,26] [] ae ae rfl ?_
  simp only[go_sem,hg,hw]
  repeat'(first|(refine aP.du (fun h=>?_) (fun h=>?_)<;>simp only[h,go_sem,hg,hw]<;>try simp only[dD] at h)|(refine aP.split (fun h=>?_) (fun h=>?_)<;>simp only[h,go_sem,hg,hw]<;>try simp only[dD] at h)|((with_reducible refine And.intro ?_ ?_);(focus((omega)));(try simp only[hb,go_sem,hg,hw])))
  all_goals(
   refine hK4 _ ?_;clear hK4 K4
   refine aa.cond rfl (fun c41=>?_) (fun c41=>?_)
   ·(
     try simp only[dD] at c41
     refine aa.ah fun K5 hK5=>?_
     refine aa.region ?_
     simp only[go_sem]
     refine hK5 _ ?_;clear hK5 K5
     refine aa.dL [0,1,2,3,4,5] [Z0,some [aT b m],some (aR b m),some [ao x],some [ao x],some [ao x]] [b.ids.length] 6 aj jH hup (Nat.le_refl _) j6 hP ⟨rfl,trivial⟩ (Nat.le_refl _) ?_
     refine aa.ret ?_
     try simp only[go_sem]
     clear hK3 K3
     first
     |(exfalso;omega)
     |exact hK _ _ _ b _ m (DR e2) rfl rfl rfl
     |exact hK _ _ _ b _ m (DS e2 hb af) rfl rfl rfl
     |exact hK _ _ _ b _ m (DT e2 hb af) rfl rfl rfl)
   ·first|exact Bool.noConfusion c41|(
     try simp only[dD] at c41
     refine aa.skip ?_
     refine hK3 _ ?_;clear hK3 K3
     refine aa.ah fun K6 hK6=>?_
     refine aa.region ?_
     simp only[go_sem,hg]
     repeat'(((with_reducible refine And.intro ?_ ?_);(focus((omega)));(try simp only[hb,go_sem,hg])))
     refine hK6 _ ?_;clear hK6 K6
     refine aa.ah fun K7 hK7=>?_
     refine aa.ah fun K8 hK8=>?_
     refine aa.bB [0,1,2,3,4,5,6,7,8,9,10,11,12,13,14,15,16,17,18,19,20,21,22,23,24,25,26,27,28,29,30,31,32,33] [] ae ae rfl ?_
     simp only[go_sem,hg]
     repeat'((refine aP.split (fun h=>?_) (fun h=>?_)<;>simp only[h,go_sem,hg]<;>try simp only[dD] at h))
     all_goals(
      refine hK8 _ ?_;clear hK8 K8
      refine aa.cond rfl (fun c81=>?_) (fun c81=>?_)
      ·(
        try simp only[dD] at c81
        refine aa.ah fun K9 hK9=>?_
        refine aa.region ?_
        simp only[go_sem]
        refine hK9 _ ?_;clear hK9 K9
        refine aa.dL [0,1,2,3,4,5] [Z0,some [aT b m],some (aR b m),some [ao x],some [ao x],some [ao x]] [b.ids.length] 6 aj jH hup (Nat.le_refl _) j6 hP ⟨rfl,trivial⟩ (Nat.le_refl _) ?_
        refine aa.ret ?_
        try simp only[go_sem]
        clear hK7 K7
        first
        |exact hK _ _ _ b _ m (r7 e2 hb af af (.inl af)) rfl rfl rfl
        |exact hK _ _ _ b _ m (r7 e2 hb af af (.inr (.inl af))) rfl rfl rfl
        |exact hK _ _ _ b _ m (r7 e2 hb af af (.inr (.inr (.inl af)))) rfl rfl rfl
        |exact hK _ _ _ b _ m (r7 e2 hb af af (.inr (.inr (.inr af)))) rfl rfl rfl)
      ·first|exact Bool.noConfusion c81|(
        try simp only[dD] at c81
        refine aa.skip ?_
        refine hK7 _ ?_;clear hK7 K7
        refine aa.ah fun K10 hK10=>?_
        refine aa.ah fun K11 hK11=>?_
        refine aa.region ?_
        simp only[go_sem]
        refine hK11 _ ?_;clear hK11 K11
        refine aa.cond rfl (fun c84=>?_) (fun c84=>?_)
        ·(
          try simp only[dD] at c84
          refine aa.ah fun K12 hK12=>?_
          refine aa.region ?_
          simp only[go_sem]
          repeat'((refine aQ.gV af ?_;(try simp only[go_sem])))
          refine hK12 _ ?_;clear hK12 K12
          refine aa.ah fun K13 hK13=>?_
          rw[uW (o':=⟨f.id,f.ord,f.acc,f.sym,f.aD,f.au,f.aE,f.time,false⟩) hb (spare 9 m)]
          refine aa.region ?_
          simp only[go_sem]
          refine hK13 _ ?_;clear hK13 K13
          refine aa.dL [0,1,2,3,4,5] [Z0,some [aT (cV b x).1 m],some (aR (cV b x).1 m),some [ao x],some [ao x],some [ao x]] [b.ids.length] 6 aj jH hup (Nat.le_refl _) (by rw[uh e2 hb af af af af af af af];exact(we rfl rfl rfl rfl).trans (by simp[aR])) hP ⟨rfl,trivial⟩ (Nat.le_refl _) ?_
          refine aa.ret ?_
          try simp only[go_sem]
          clear hK10 K10
          (exact hK _ _ _ (cV b x).1 0 m (by rw[uh e2 hb af af af af af af af]) rfl (by rw[uh e2 hb af af af af af af af]) rfl))
        ·(
          try simp only[dD] at c84
          refine aa.skip ?_
          refine hK10 _ ?_;clear hK10 K10
          refine aa.ah fun K14 hK14=>?_
          refine aa.ah fun K15 hK15=>?_
          refine aa.bB [0,1,2,3,4,5,6] [] ae ae rfl ?_
          simp only[go_sem,hg]
          refine hK15 _ ?_;clear hK15 K15
          refine aa.cond rfl (fun c94=>?_) (fun c94=>?_)
          ·(
            try simp only[dD] at c94
            refine aa.ah fun K16 hK16=>?_
            refine aa.region ?_
            simp only[go_sem]
            refine hK16 _ ?_;clear hK16 K16
            refine aa.dL [0,1,2,3,4,5] [Z0,some [aT b m],some (aR b m),some [ao x],some [ao x],some [ao x]] [b.ids.length] 6 aj jH hup (Nat.le_refl _) j6 hP ⟨rfl,trivial⟩ (Nat.le_refl _) ?_
            refine aa.ret ?_
            try simp only[go_sem]
            clear hK14 K14
            (exact hK _ _ _ b _ m (DQ e2 hb af af af af af af af af) rfl rfl rfl))
          ·(
            try simp only[dD] at c94
            refine aa.skip ?_
            refine hK14 _ ?_;clear hK14 K14
            refine aa.ah fun K17 hK17=>?_
            refine aa.wB (.take 0 (.take 1 (.take 2 (.take 3 (.take 4 (.take 5 (.take 6 (.take 7 (.fork (.alt 8 (.take 9 (.take 10 (.take 11 (.take 12 (.take 13 (.take 14 .done)))))) (.alt 12 (.take 8 (.take 9 (.take 10 (.take 11 (.take 13 (.take 14 .done)))))) .ends))))))))))) [[],[0],[0,1],[0,1,2],[],[4],[4,5],[4,5,6],[0,1,2,3,4,5,6,7],[0,1,2,3,4,5,6,7,8],[0,1,2,3,4,5,6,7,8,9],[0,1,2,3,4,5,6,7,8,9],[],[0,1,2,3,4,5,6,7,8,9,10,12],[0,1,2,3,4,5,6,7,8,9,10,11,12,13]] [7] ae ae aj ?_
            simp only[go_sem,hg]
            refine And.intro ?_ ?_
            repeat'((refine ak.one (s5 b.aq f.ord ab) ae rfl ?_;simp only[go_sem,hg]))
            all_goals(
             refine hK17 _ ?_;clear hK17 K17
             refine aa.ah fun K18 hK18=>?_
             refine aa.ah fun K19 hK19=>?_
             refine aa.bB [0,1,2,3,4,5,6,7,8,9,10,11,12] [] ae ae rfl ?_
             simp only[go_sem,hg]
             repeat'(first|(refine ak.one (Fq (findF b.aq f.ord).1 f.aD x.aE) ae rfl ?_;simp only[go_sem,hg])|(refine aP.split (fun h=>?_) (fun h=>?_)<;>simp only[h,go_sem,hg]<;>try simp only[dD] at h))
             all_goals(
              refine hK19 _ ?_;clear hK19 K19
              refine aa.cond rfl (fun c119=>?_) (fun c119=>?_)
              ·(
                try simp only[dD] at c119
                refine aa.ah fun K20 hK20=>?_
                refine aa.region ?_
                simp only[go_sem]
                refine hK20 _ ?_;clear hK20 K20
                refine aa.dL [0,1,2,3,4,5] [Z0,some [aT b m],some (aR b m),some [ao x],some [ao x],some [ao x]] [b.ids.length] 6 aj jH hup (Nat.le_refl _) j6 hP ⟨rfl,trivial⟩ (Nat.le_refl _) ?_
                refine aa.ret ?_
                try simp only[go_sem]
                clear hK18 K18
                first
                |exact hK _ _ _ b _ m (xE e2 hb af af af af af af af af (.inl af)) rfl rfl rfl
                |exact hK _ _ _ b _ m (xE e2 hb af af af af af af af af (.inr af)) rfl rfl rfl)
              ·first|exact Bool.noConfusion c119|(
                try simp only[dD] at c119
                refine aa.skip ?_
                refine hK18 _ ?_;clear hK18 K18
                refine aa.ah fun K21 hK21=>?_
                refine aa.region ?_
                simp only[go_sem]
                repeat'((refine aQ.gV af ?_;(try simp only[go_sem])))
                refine hK21 _ ?_;clear hK21 K21
                refine aa.ah fun K22 hK22=>?_
                rw[uW (o':=⟨f.id,f.ord,f.acc,f.sym,f.aD,x.au,f.aE,f.time,f.live⟩) hb (spare 9 m)]
                have hb1:(b.av.set n ⟨f.id,f.ord,f.acc,f.sym,f.aD,x.au,f.aE,f.time,f.live⟩)[n]?=some ⟨f.id,f.ord,f.acc,f.sym,f.aD,x.au,f.aE,f.time,f.live⟩:=List.getElem?_set_self hn
                have hg2:=yO hb1 (spare 9 m)
                refine aa.region ?_
                simp only[go_sem,hg2]
                refine hK22 _ ?_;clear hK22 K22
                refine aa.ah fun K23 hK23=>?_
                rw[uW (o':=⟨f.id,f.ord,f.acc,f.sym,f.aD,x.au,x.aE,f.time,f.live⟩) hb1 (spare 9 m),List.set_set]
                refine aa.region ?_
                simp only[go_sem]
                refine hK23 _ ?_;clear hK23 K23
                refine aa.dL [0,1,2,3,4,5] [Z0,some [aT (cV b x).1 m],some (aR (cV b x).1 m),some [ao x],some [ao x],some [ao x]] [b.ids.length] 6 aj jH hup (Nat.le_refl _) (by rw[ui e2 hb af af af af af af af af af af];exact(we rfl rfl rfl rfl).trans (by simp[aR])) hP ⟨rfl,trivial⟩ (Nat.le_refl _) ?_
                refine aa.ret ?_
                try simp only[go_sem]
                (exact hK _ _ _ (cV b x).1 0 m (by rw[ui e2 hb af af af af af af af af af af]) rfl (by rw[ui e2 hb af af af af af af af af af af]) rfl)))))))))))
end Go.Proofs.YthoonfpkfdjhiaaGreatDoor
end
