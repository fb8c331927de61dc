/- Texts of one chain, put together (BN4, BN5, BN6, BN7, BN8, BN9). -/
import Derived.Test.YthoonfpkfdjhiaaGreatDoorKcK
import Derived.Test.YthoonfpkfdjhiaaGreatDoorKcF
import Derived.Test.YthoonfpkfdjhiaaGreatDoorKcA
set_option linter.unusedVariables false
set_option linter.unusedSimpArgs false
set_option maxHeartbeats 16000000
set_option maxRecDepth 8000
section
namespace Go.Proofs.YthoonfpkfdjhiaaGreatDoor
open Go Go.az Go.RowKit Go.Bk
theorem UI(l:List Od)(id:Bs)(hl:l.length≤1000000):ai E 257 [bz l,str id] (fun r t=>(∃x,r= .ax [x,i64 (ej l id).2]∧((ej l id).2=0→x=bz (ej l id).1))∧t=[]):=by
 refine ai.aC (n:=24) (rs:=[.tmp 4,.tmp 5]) Tryz.func257 rfl Tryz.ntmps257 rfl ?_
 refine aa.ah fun K1 hK1=>?_
 refine aa.region ?_
 simp only[go_sem]
 refine hK1 _ ?_;clear hK1 K1
 refine aa.ah fun K2 hK2=>?_
 refine aa.region ?_
 simp only[go_sem]
 repeat'((refine ak.take (oi l hl) ae rfl (.cons (.one (.clean rfl)) .nil) ?_;rintro r t ⟨rfl,rfl⟩;refine⟨0,8,_,rfl,by simp,td _,fun m=>?_⟩;simp only[go_sem,List.length_map]))
 refine hK2 _ ?_;clear hK2 K2
 refine aa.ah fun K3 hK3=>?_
 refine aa.ah fun K4 hK4=>?_
 refine aa.region ?_
 simp only[go_sem]
 repeat'((refine ak.hP (mQ l ab) ae rfl (.cons (.one (.jy rfl aB (jm l))) .nil) ?_;simp only[go_sem]))
 refine hK4 _ ?_;clear hK4 K4
 refine aa.cond rfl (fun c11=>?_) (fun c11=>?_)
 ·(
   try simp only[dD] at c11
   refine aa.ah fun K5 hK5=>?_
   refine aa.region ?_
   simp only[go_sem]
   refine hK5 _ ?_;clear hK5 K5
   refine aa.ret ?_
   try simp only[go_sem]
   clear hK3 K3
   (exact⟨[],.ax [.any,.v _],rfl,⟨trivial,rfl,trivial⟩,gE (KC af) aj,rfl⟩))
 ·(
   try simp only[dD] at c11
   refine aa.skip ?_
   refine hK3 _ ?_;clear hK3 K3
   refine aa.ah fun K6 hK6=>?_
   refine aa.region ?_
   simp only[go_sem]
   repeat'((refine ak.hP (vO l _ ab) ae rfl (.cons (.one (.jy rfl aB (jm l))) (.cons (.one (.clean rfl)) .nil)) ?_;simp only[go_sem]))
   refine hK6 _ ?_;clear hK6 K6
   refine aa.ah fun K7 hK7=>?_
   refine aa.ah fun K8 hK8=>?_
   refine aa.region ?_
   simp only[go_sem]
   refine hK8 _ ?_;clear hK8 K8
   refine aa.cond rfl (fun c17=>?_) (fun c17=>?_)
   ·(
     try simp only[dD] at c17
     refine aa.ah fun K9 hK9=>?_
     refine aa.region ?_
     simp only[go_sem]
     refine hK9 _ ?_;clear hK9 K9
     refine aa.ret ?_
     try simp only[go_sem]
     clear hK7 K7
     (exact⟨[],.ax [.any,.v _],rfl,⟨trivial,rfl,trivial⟩,gE (KD af (vP af)) aj,rfl⟩))
   ·(
     try simp only[dD] at c17
     refine aa.skip ?_
     refine hK7 _ ?_;clear hK7 K7
     refine aa.ah fun K10 hK10=>?_
     obtain⟨n,o,e,e2,hb,ho⟩:∃n o,gd l id=(n:Nat)∧eA l id=some n∧l[n]?=some o∧o.bZ=true:=by
      rcases s7 l id with⟨e,e2⟩|h
      ·exact absurd (show gd l id<0 by omega) af
      ·exact h
     simp only[e]
     have hn:n<l.length:=cu hb
     have hg:=sX hb (spare 8 m)
     refine aa.region ?_
     simp only[go_sem,hg]
     repeat'(((with_reducible refine And.intro ?_ ?_);(focus((omega)));(try simp only[hb,go_sem,hg])))
     refine hK10 _ ?_;clear hK10 K10
     refine aa.ah fun K11 hK11=>?_
     refine aa.ov 0 0 8 l.length _ ((l.set n ⟨o.id,o.acc,o.sym,o.aD,o.au,o.aE,o.done,false⟩).map bj) (spare 8 m) rfl (congrArg (fun x=>some (some x)) (sY (o':=⟨o.id,o.acc,o.sym,o.aD,o.au,o.aE,o.done,false⟩) hb (spare 8 m))) aB (jm _) ?_
     simp only[go_sem]
     refine aa.region ?_
     simp only[go_sem]
     refine hK11 _ ?_;clear hK11 K11
     refine aa.ret ?_
     try simp only[go_sem]
     (exact⟨[],.ax [.sl none 8 _,.v _],rfl,⟨⟨rfl,rfl⟩,rfl,trivial⟩,kT (KF af e2 hb),rfl⟩)))
theorem UU(l:List Od)(id:Bs)(q p:Int)(hq:q≤4611686018427387904)(hl:l.length≤1000000):ai E 277 [bz l,str id,i64 q,i64 p] (fun r t=>(∃x,r= .ax [x,i64 (dB l id q p).2]∧((dB l id q p).2=0→x=bz (dB l id q p).1))∧t=[]):=by
 refine ai.aC (n:=68) (rs:=[.tmp 8,.tmp 9]) Tryz.func277 rfl Tryz.ntmps277 rfl ?_
 refine aa.ah fun K1 hK1=>?_
 refine aa.region ?_
 simp only[go_sem]
 refine hK1 _ ?_;clear hK1 K1
 refine aa.ah fun K2 hK2=>?_
 refine aa.region ?_
 simp only[go_sem]
 repeat'((refine ak.take (oi l hl) ae rfl (.cons (.one (.clean rfl)) .nil) ?_;rintro r t ⟨rfl,rfl⟩;refine⟨0,8,_,rfl,by simp,td _,fun m=>?_⟩;simp only[go_sem,List.length_map]))
 refine hK2 _ ?_;clear hK2 K2
 refine aa.ah fun K3 hK3=>?_
 refine aa.ah fun K4 hK4=>?_
 refine aa.region ?_
 simp only[go_sem]
 repeat'((refine ak.hP (mQ l ab) ae rfl (.cons (.one (.jy rfl aB (jm l))) .nil) ?_;simp only[go_sem]))
 refine hK4 _ ?_;clear hK4 K4
 refine aa.cond rfl (fun c15=>?_) (fun c15=>?_)
 ·(
   try simp only[dD] at c15
   refine aa.ah fun K5 hK5=>?_
   refine aa.region ?_
   simp only[go_sem]
   refine hK5 _ ?_;clear hK5 K5
   refine aa.ret ?_
   try simp only[go_sem]
   clear hK3 K3
   (exact⟨[],.ax [.any,.v _],rfl,⟨trivial,rfl,trivial⟩,gE (OF af) aj,rfl⟩))
 ·(
   try simp only[dD] at c15
   refine aa.skip ?_
   refine hK3 _ ?_;clear hK3 K3
   refine aa.ah fun K6 hK6=>?_
   refine aa.region ?_
   simp only[go_sem]
   repeat'((refine ak.hP (vO l _ ab) ae rfl (.cons (.one (.jy rfl aB (jm l))) (.cons (.one (.clean rfl)) .nil)) ?_;simp only[go_sem]))
   refine hK6 _ ?_;clear hK6 K6
   refine aa.ah fun K7 hK7=>?_
   refine aa.ah fun K8 hK8=>?_
   refine aa.region ?_
   simp only[go_sem]
   refine hK8 _ ?_;clear hK8 K8
   refine aa.cond rfl (fun c21=>?_) (fun c21=>?_)
   ·(
     try simp only[dD] at c21
     refine aa.ah fun K9 hK9=>?_
     refine aa.region ?_
     simp only[go_sem]
     refine hK9 _ ?_;clear hK9 K9
     refine aa.ret ?_
     try simp only[go_sem]
     clear hK7 K7
     (exact⟨[],.ax [.any,.v _],rfl,⟨trivial,rfl,trivial⟩,gE (OG af (vP af)) aj,rfl⟩))
   ·(
     try simp only[dD] at c21
     refine aa.skip ?_
     refine hK7 _ ?_;clear hK7 K7
     refine aa.ah fun K10 hK10=>?_
     refine aa.ah fun K11 hK11=>?_
     obtain⟨n,o,e,e2,hb,ho⟩:∃n o,gd l id=(n:Nat)∧eA l id=some n∧l[n]?=some o∧o.bZ=true:=by
      rcases s7 l id with⟨e,e2⟩|h
      ·exact absurd (show gd l id<0 by omega) af
      ·exact h
     simp only[e]
     have hn:n<l.length:=cu hb
     have hg:=sX hb (spare 8 m)
     refine aa.region ?_
     simp only[go_sem,hg]
     repeat'(first|(refine ak.one (AS _) ae rfl ?_;simp only[go_sem,hg])|(refine aP.df (fun h=>?_) (fun h=>?_)<;>simp only[h,go_sem,hg]<;>try simp only[dD] at h)|((with_reducible refine And.intro ?_ ?_);(focus((omega)));(try simp only[hb,go_sem,hg])))
     all_goals(
      refine hK11 _ ?_;clear hK11 K11
      refine aa.cond rfl (fun c33=>?_) (fun c33=>?_)
      ·(
        try simp only[dD] at c33
        refine aa.ah fun K12 hK12=>?_
        refine aa.region ?_
        simp only[go_sem]
        refine hK12 _ ?_;clear hK12 K12
        refine aa.ret ?_
        try simp only[go_sem]
        clear hK10 K10
        first
        |exact⟨[],.ax [.any,.v _],rfl,⟨trivial,rfl,trivial⟩,gE (y7 af e2 hb (.inl af)) aj,rfl⟩
        |exact⟨[],.ax [.any,.v _],rfl,⟨trivial,rfl,trivial⟩,gE (y7 af e2 hb (.inr af)) aj,rfl⟩)
      ·first|exact Bool.noConfusion c33|(
        try simp only[dD] at c33
        refine aa.skip ?_
        refine hK10 _ ?_;clear hK10 K10
        refine aa.ah fun K13 hK13=>?_
        refine aa.ah fun K14 hK14=>?_
        refine aa.region ?_
        simp only[go_sem,hg]
        repeat'(first|(refine ak.one (UT _ _) ae rfl ?_;simp only[go_sem,hg])|((with_reducible refine And.intro ?_ ?_);(focus((omega)));(try simp only[hb,go_sem,hg])))
        refine hK14 _ ?_;clear hK14 K14
        refine aa.cond rfl (fun c41=>?_) (fun c41=>?_)
        ·(
          try simp only[dD] at c41
          refine aa.ah fun K15 hK15=>?_
          refine aa.region ?_
          simp only[go_sem]
          refine hK15 _ ?_;clear hK15 K15
          refine aa.ret ?_
          try simp only[go_sem]
          clear hK13 K13
          (exact⟨[],.ax [.any,.v _],rfl,⟨trivial,rfl,trivial⟩,gE (OH af e2 hb af af af) aj,rfl⟩))
        ·(
          try simp only[dD] at c41
          refine aa.skip ?_
          refine hK13 _ ?_;clear hK13 K13
          refine aa.ah fun K16 hK16=>?_
          have hroom:=y8 (wB af hb) af af
          have hw:IntKind.i64.wrap (o.done+q)=o.done+q:=aN ab ab
          refine aa.region ?_
          simp only[go_sem,hg]
          repeat'(((with_reducible refine And.intro ?_ ?_);(focus((omega)));(try simp only[hb,go_sem,hg])))
          refine hK16 _ ?_;clear hK16 K16
          refine aa.ah fun K17 hK17=>?_
          rw[hw]
          rw[sY (o':=⟨o.id,o.acc,o.sym,o.aD,o.au,o.aE,o.done+q,o.bZ⟩) hb (spare 8 m)]
          have hb2:(l.set n ⟨o.id,o.acc,o.sym,o.aD,o.au,o.aE,o.done+q,o.bZ⟩)[n]?=some ⟨o.id,o.acc,o.sym,o.aD,o.au,o.aE,o.done+q,o.bZ⟩:=List.getElem?_set_self hn
          have hg2:=sX hb2 (spare 8 m)
          refine aa.bA [0,1,2,3,4,5,6,7,8,9,10,11,12,13,14,15] [] ae ae rfl ?_
          simp only[go_sem,hg2]
          repeat'(((with_reducible refine And.intro ?_ ?_);(focus((omega)));(try simp only[hb,go_sem,hg2])))
          refine hK17 _ ?_;clear hK17 K17
          refine aa.ah fun K18 hK18=>?_
          refine aa.ov 0 0 8 l.length _ (((l.set n ⟨o.id,o.acc,o.sym,o.aD,o.au,o.aE,o.done+q,o.bZ⟩).set n ⟨o.id,o.acc,o.sym,o.aD,o.au,o.aE,o.done+q,decide (o.done+q<o.au)⟩).map bj) (spare 8 m) rfl (congrArg (fun x=>some (some x)) (sY (o':=⟨o.id,o.acc,o.sym,o.aD,o.au,o.aE,o.done+q,decide (o.done+q<o.au)⟩) hb2 (spare 8 m))) aB (jm _) ?_
          simp only[go_sem]
          refine aa.region ?_
          simp only[go_sem]
          refine hK18 _ ?_;clear hK18 K18
          refine aa.ret ?_
          try simp only[go_sem]
          (exact⟨[],.ax [.sl none 8 _,.v _],rfl,⟨⟨rfl,by rw[List.set_set]⟩,rfl,trivial⟩,kT (qI af e2 hb af af af),rfl⟩))))))
theorem UJ{l:List Od}{n:Nat}{o:Od}(sp:List AV):((l.set n o).map bj++sp).take l.length=(l.set n o).map bj:=by
 rw[List.take_left' aB]
theorem UH(l:List Od)(a b:Bs)(q p:Int)(hl:l.length≤1000000):ai E 278 [bz l,str a,str b,i64 q,i64 p] (fun r t=>(∃x,r= .ax [x,i64 (dA l a b q p).2]∧((dA l a b q p).2=0→x=bz (dA l a b q p).1))∧t=[]):=by
 refine ai.aC (n:=66) (rs:=[.tmp 10,.tmp 11]) Tryz.func278 rfl Tryz.ntmps278 rfl ?_
 refine aa.ah fun K1 hK1=>?_
 refine aa.region ?_
 simp only[go_sem]
 refine hK1 _ ?_;clear hK1 K1
 refine aa.ah fun K2 hK2=>?_
 refine aa.region ?_
 simp only[go_sem]
 repeat'((refine ak.take (oi l hl) ae rfl (.cons (.one (.clean rfl)) .nil) ?_;rintro r t ⟨rfl,rfl⟩;refine⟨0,8,_,rfl,by simp,td _,fun m=>?_⟩;simp only[go_sem,List.length_map]))
 refine hK2 _ ?_;clear hK2 K2
 refine aa.ah fun K3 hK3=>?_
 refine aa.ah fun K4 hK4=>?_
 refine aa.region ?_
 simp only[go_sem]
 repeat'((refine ak.hP (mQ l ab) ae rfl (.cons (.one (.jy rfl aB (jm l))) .nil) ?_;simp only[go_sem]))
 refine hK4 _ ?_;clear hK4 K4
 refine aa.cond rfl (fun c18=>?_) (fun c18=>?_)
 ·(
   try simp only[dD] at c18
   refine aa.ah fun K5 hK5=>?_
   refine aa.region ?_
   simp only[go_sem]
   refine hK5 _ ?_;clear hK5 K5
   refine aa.ret ?_
   try simp only[go_sem]
   clear hK3 K3
   (exact⟨[],.ax [.any,.v _],rfl,⟨trivial,rfl,trivial⟩,gE (Go.Bk.uy af) aj,rfl⟩))
 ·(
   try simp only[dD] at c18
   refine aa.skip ?_
   refine hK3 _ ?_;clear hK3 K3
   refine aa.ah fun K6 hK6=>?_
   refine aa.region ?_
   simp only[go_sem]
   repeat'((refine ak.hP (vO l _ ab) ae rfl (.cons (.one (.jy rfl aB (jm l))) (.cons (.one (.clean rfl)) .nil)) ?_;simp only[go_sem]))
   refine hK6 _ ?_;clear hK6 K6
   refine aa.ah fun K7 hK7=>?_
   refine aa.ah fun K8 hK8=>?_
   refine aa.region ?_
   simp only[go_sem]
   refine hK8 _ ?_;clear hK8 K8
   refine aa.cond rfl (fun c24=>?_) (fun c24=>?_)
   ·(
     try simp only[dD] at c24
     refine aa.ah fun K9 hK9=>?_
     refine aa.region ?_
     simp only[go_sem]
     refine hK9 _ ?_;clear hK9 K9
     refine aa.ret ?_
     try simp only[go_sem]
     clear hK7 K7
     (exact⟨[],.ax [.any,.v _],rfl,⟨trivial,rfl,trivial⟩,gE (Go.Bk.sj af (vP af)) aj,rfl⟩))
   ·(
     try simp only[dD] at c24
     refine aa.skip ?_
     refine hK7 _ ?_;clear hK7 K7
     refine aa.ah fun K10 hK10=>?_
     obtain⟨n,o,e,e2,hb,ho⟩:∃n o,gd l a=(n:Nat)∧eA l a=some n∧l[n]?=some o∧o.bZ=true:=by
      rcases s7 l a with⟨e,e2⟩|h
      ·exact absurd (show gd l a<0 by omega) af
      ·exact h
     simp only[e]
     have hn:n<l.length:=cu hb
     have hg:=sX hb (spare 8 m)
     refine aa.region ?_
     simp only[go_sem,hg]
     repeat'(((with_reducible refine And.intro ?_ ?_);(focus((omega)));(try simp only[hb,go_sem,hg])))
     refine hK10 _ ?_;clear hK10 K10
     refine aa.ah fun K11 hK11=>?_
     refine aa.region ?_
     simp only[go_sem]
     refine hK11 _ ?_;clear hK11 K11
     refine aa.ah fun K12 hK12=>?_
     refine aa.region ?_
     simp only[go_sem]
     refine hK12 _ ?_;clear hK12 K12
     refine aa.ah fun K13 hK13=>?_
     refine aa.block ?_
     refine aa.ah fun K14 hK14=>?_
     refine aa.region ?_
     simp only[go_sem]
     repeat'((refine ak.one (om (⟨b,o.acc,o.sym,o.aD,q,p,o.done,decide (o.done<q)⟩:Od)) ae rfl ?_;simp only[go_sem]))
     refine hK14 _ ?_;clear hK14 K14
     refine aa.cond rfl (fun c42=>?_) (fun c42=>?_)
     ·(
       try simp only[dD] at c42
       refine aa.ah fun K15 hK15=>?_
       refine aa.region ?_
       simp only[go_sem]
       refine hK15 _ ?_;clear hK15 K15
       refine aa.ret ?_
       try simp only[go_sem]
       clear hK13 K13
       (exact⟨[],.ax [.any,.v _],rfl,⟨trivial,rfl,trivial⟩,gE (F8 af e2 hb af) aj,rfl⟩))
     ·(
       try simp only[dD] at c42
       refine aa.ah fun K16 hK16=>?_
       refine aa.region ?_
       simp only[go_sem]
       repeat'((refine ak.hP (q7 l _ ab) ae rfl (.cons (.one (.jy rfl aB (jm l))) (.cons (.one (.clean rfl)) .nil)) ?_;simp only[go_sem]))
       refine hK16 _ ?_;clear hK16 K16
       refine aa.cond rfl (fun qv=>?_) (fun qv=>?_)
       ·(
         try simp only[dD] at qv
         refine aa.ah fun K17 hK17=>?_
         refine aa.region ?_
         simp only[go_sem]
         refine hK17 _ ?_;clear hK17 K17
         refine aa.ret ?_
         try simp only[go_sem]
         clear hK13 K13
         (exact⟨[],.ax [.any,.v _],rfl,⟨trivial,rfl,trivial⟩,gE (Go.Bk.uz af e2 hb af af) aj,rfl⟩))
       ·(
         try simp only[dD] at qv
         refine aa.ah fun K18 hK18=>?_
         refine aa.region ?_
         simp only[go_sem]
         repeat'(((with_reducible refine And.intro ?_ ?_);(focus(((simp;done))));(try simp only[hb,go_sem])))
         refine hK18 _ ?_;clear hK18 K18
         refine aa.cond rfl (fun c53=>?_) (fun c53=>?_)
         ·(
           try simp only[dD] at c53
           refine aa.ah fun K19 hK19=>?_
           refine aa.region ?_
           simp only[go_sem]
           refine hK19 _ ?_;clear hK19 K19
           refine aa.ret ?_
           try simp only[go_sem]
           clear hK13 K13
           (exact⟨[],.ax [.any,.v _],rfl,⟨trivial,rfl,trivial⟩,gE (F9 af e2 hb af af ab) aj,rfl⟩))
         ·(
           try simp only[dD] at c53
           refine aa.skip ?_
           refine hK13 _ ?_;clear hK13 K13
           refine aa.ah fun K20 hK20=>?_
           refine aa.region ?_
           simp only[go_sem]
           repeat'(first|(refine aQ.gQ af ?_;(try simp only[go_sem]))|((with_reducible refine And.intro ?_ ?_);(focus((omega)));(try simp only[hb,go_sem])))
           refine hK20 _ ?_;clear hK20 K20
           refine aa.ah fun K21 hK21=>?_
           have hrl:=Go.Bk.lZ (l:=l) af
           rw[sY (o':=⟨o.id,o.acc,o.sym,o.aD,o.au,o.aE,o.done,false⟩) hb (spare 8 m)]
           refine aa.region ?_
           simp only[go_sem]
           repeat'(((with_reducible refine And.intro ?_ ?_);(focus((first|omega|(simp;done)|(simp[cZ];done))));(try simp only[hb,go_sem])))
           intro m2
           simp only[go_sem,UJ]
           refine hK21 _ ?_;clear hK21 K21
           refine aa.ov 10 2 8 (l.length+1) _ ((l.set n ⟨o.id,o.acc,o.sym,o.aD,o.au,o.aE,o.done,false⟩++[(⟨b,o.acc,o.sym,o.aD,q,p,o.done,decide (o.done<q)⟩:Od)]).map bj) (spare 8 m2) rfl (by simp only[List.map_append];rfl) aB (jm _) ?_
           simp only[go_sem]
           refine aa.ret ?_
           try simp only[go_sem]
           (exact⟨[],.ax [.sl none 8 _,.v _],rfl,⟨⟨rfl,rfl⟩,rfl,trivial⟩,kT (Gc af e2 hb af af ab),rfl⟩))))))
def fm(n:Nat):AV→Bool
 |.mu id _ _ _ _=>id !=2&&decide (id<n)
 |.ptr id _ _=>id !=2&&decide (id<n)
 |.any|.v _|.aw|.sl none _ _|.bR _|.fn _ []=>true
 |.sl (some t) _ _=>t==0
 |_=>false
def kp(n:Nat):AV→Bool
 |.agg cs=>cs.all (fm n)
 |x=>fm n x
theorem vg{n:Nat}{σ:Nat→Option Nat}(hσ:∀i,i≠2→i<n→σ i=some i){x:AV}(h:fm n x=true):x.b7 σ=x:=by
 cases x<;>simp only[fm,AV.b7,Bool.and_eq_true,bne_iff_ne,decide_eq_true_eq] at h ⊢ <;>first|(rw[hσ _ h.1 h.2])|(simp at h;done)|skip
 case fn f cs=>cases cs<;>simp[fm] at h ⊢
theorem RO{n:Nat}{σ:Nat→Option Nat}(hσ:∀i,i≠2→i<n→σ i=some i){x:AV}(h:kp n x=true):x.cz σ=x:=by
 cases x with
 |agg cs=>
  simp only[kp] at h
  simp only[AV.cz,AV.eX]
  congr 1
  have:∀y∈cs,y.b7 σ=y:=fun y hy=>vg hσ (List.all_eq_true.1 h y hy)
  exact(List.map_congr_left this).trans (List.map_id _)
 |ax cs=>simp[kp,fm] at h
 |fn f cs=>
  cases cs with
  |nil=>rfl
  |cons=>simp[kp,fm] at h
 |mu id k o l c=>simp only[AV.cz,AV.eX];exact vg hσ h
 |ptr id i o=>simp only[AV.cz,AV.eX];exact vg hσ h
 |_=>rfl
theorem RM{n:Nat}{σ:Nat→Option Nat}(hσ:∀i,i≠2→i<n→σ i=some i){l:List AV}(h:l.all (kp n)=true):l.map (AV.cz σ)=l:=
 (List.map_congr_left (fun y hy=>RO hσ (List.all_eq_true.1 h y hy))).trans (List.map_id _)
theorem sL{n no nt:Nat}(h1:n≤no)(h2:1≤nt){x:AV}(h:fm n x=true):x.ei no nt=true:=by
 cases x<;>simp only[fm,AV.ei,Bool.and_eq_true,bne_iff_ne,decide_eq_true_eq] at h ⊢ <;>first|omega|skip
 case sl t k es=>cases t<;>simp[fm,AV.ei] at h ⊢;omega
 case fn f cs=>cases cs<;>simp[fm,AV.ei] at h ⊢
theorem vj{n no nt:Nat}(h1:n≤no)(h2:1≤nt){x:AV}(h:kp n x=true):x.bw no nt=true:=by
 cases x with
 |agg cs=>
  simp only[kp] at h
  simp only[AV.bw,AV.gO]
  exact List.all_eq_true.2 fun y hy=>sL h1 h2 (List.all_eq_true.1 h y hy)
 |ax cs=>simp[kp,fm] at h
 |fn f cs=>
  cases cs with
  |nil=>rfl
  |cons=>simp[kp,fm] at h
 |sl t k es=>exact sL (x:= .sl t k es) h1 h2 h
 |mu id k o l c=>exact sL (x:= .mu id k o l c) h1 h2 h
 |ptr id i o=>exact sL (x:= .ptr id i o) h1 h2 h
 |_=>rfl
def sw(no nt:Nat)(x:AV):AV:=if x.bw no nt then x else .any
theorem CZ{no nt:Nat}:∀l:List AV,jO no nt l (l.map (sw no nt))
 |[]=>trivial
 |x::l=>by
  refine⟨?_,CZ l⟩
  unfold sw
  by_cases h:x.bw no nt=true
  ·rw[if_pos h];exact .inr ⟨rfl,h⟩
  ·rw[if_neg h];exact .inl rfl
def iH(no nt:Nat)(own:List (Option (List AV))):Bool:=own.all fun o=>match o with|none=>true|some es=>es.all fun e=>e.leaves.all (AV.bw no nt)
theorem xb{no nt:Nat}:∀{l:List (Option (List AV))},iH no nt l=true→gi no nt l l
 |[],_=>trivial
 |x::l,h=>by
  simp only[iH,List.all_cons,Bool.and_eq_true] at h
  refine⟨.inr ⟨rfl,fun es hes e he z hz=>?_⟩,xb h.2⟩
  have h1:=h.1
  rw[hes] at h1
  exact List.all_eq_true.1 (List.all_eq_true.1 h1 e he) z hz
theorem aa.dK{E:Env}{c:Code}{Q:Exit→St→Prop}{tmps up:List AV}{own:List (Option (List AV))}{tk:List Nat}{gl:Nat→Option (List AV)}(sel:List Nat)(own':List (Option (List AV)))(tk':List Nat)(n:Nat)(hnd:sel.Nodup)(hσ:∀i,i≠2→i<n→cA sel i=some i)
 (hup:up.all (kp n)=true) (hn:n≤own'.length) (hown:jF own sel=own') (hb:iH own'.length tk'.length own'=true) (htk:jl tk tk') (h0:1≤tk'.length)
 (hw:aa E c Q ⟨(tmps.map (AV.cz (cA sel))).map (sw own'.length tk'.length),own',tk',gl,none,up⟩):aa E c Q ⟨tmps,own,tk,gl,none,up⟩:=by
 refine aa.norm sel hnd rfl (RM hσ hup) ?_
 refine aa.weaken (t:=⟨(tmps.map (AV.cz (cA sel))).map (sw own'.length tk'.length),own',tk',gl,none,up⟩) ⟨CZ _,?_,htk,rfl,rfl,rfl,List.all_eq_true.2 fun x hx=>vj hn h0 (List.all_eq_true.1 hup x hx)⟩ hw
 show gi _ _ (jF own sel) own'
 rw[hown];exact xb hb
abbrev aT(b:Bk)(m:Nat):AV:= .agg [bz b.aq,.mu 2 9 0 b.av.length (b.av.length+m),.sl (some 0) 1 (b.ids.map str),i64 b.clock,i64 b.bad]
abbrev aR(b:Bk)(m:Nat):List AV:=b.av.map cG++spare 9 m
theorem yK{l:List Dn}{n:Nat}{o:Dn}(h:l[n]?=some o)(sp:List AV):(l.map cG++sp)[n]?=some (cG o):=by
 rw[List.getElem?_append_left (by simpa using cu h),List.getElem?_map,h];rfl
theorem uI{l:List Dn}{n:Nat}{o o':Dn}(h:l[n]?=some o)(sp:List AV):(l.map cG++sp).set n (cG o')=(l.set n o').map cG++sp:=by
 rw[List.set_append_left _ _ (by simpa using cu h),List.map_set]
theorem pa(σ:Nat→Option Nat)(l:List Dn)(m:Nat):(l.map cG++spare 9 m).map (AV.cz σ)=l.map cG++spare 9 m:=by
 rw[List.map_append,List.map_map]
 congr 1
 simp[spare,AV.cz,AV.eX,AV.b7]
theorem Xq(no nt:Nat)(l:List Dn)(m:Nat):((l.map cG++spare 9 m).all fun e=>e.leaves.all (AV.bw no nt))=true:=by
 rw[List.all_eq_true]
 intro e he
 rcases List.mem_append.1 he with he|he
 ·obtain⟨f,_,rfl⟩:=List.mem_map.1 he;rfl
 ·simp only[spare,List.mem_replicate] at he
  rw[he.2]
  simp[AV.leaves,AV.bw,AV.gO,AV.ei]
theorem DE(f:Dn)(x:Ex):ai E 275 [cG f,.bR [str x.id,str x.ref,str x.ord,str x.acc,str x.sym,i64 x.kind,bl x.aD,i64 x.au,i64 x.aE,i64 x.time]] (fun r t=>r=bl (decide (f.id=x.ref))∧t=[]):=by
 refine ai.aC (n:=9) (rs:=[.tmp 3]) Tryz.func275 rfl Tryz.ntmps275 rfl ?_
 refine aa.ah fun K1 hK1=>?_
 refine aa.region ?_
 simp only[go_sem]
 refine hK1 _ ?_;clear hK1 K1
 refine aa.ah fun K2 hK2=>?_
 refine aa.region ?_
 simp only[go_sem]
 refine hK2 _ ?_;clear hK2 K2
 refine aa.ret ?_
 try simp only[go_sem]
 exact⟨[],.v _,rfl,rfl,by simp_all,rfl⟩
theorem LL(l:List Dn)(x:Ex)(hl:l.length≤9223372036854775807):ai E 274 [dn l,.fn 275 [.bR [str x.id,str x.ref,str x.ord,str x.acc,str x.sym,i64 x.kind,bl x.aD,i64 x.au,i64 x.aE,i64 x.time]]] (fun r t=>r=i64 (mh l x.ref)∧t=[]):=by
 refine ai.aC (n:=19) (rs:=[.tmp 4]) Tryz.func274 rfl Tryz.ntmps274 rfl ?_
 refine aa.ah fun K1 hK1=>?_
 refine aa.region ?_
 simp only[go_sem]
 refine hK1 _ ?_;clear hK1 K1
 refine aa.ah fun K2 hK2=>?_
 refine aa.ah fun K3 hK3=>?_
 refine aa.region ?_
 simp only[go_sem]
 repeat'(((with_reducible refine And.intro ?_ ?_);(focus(((simp;done))));(try simp only[hb,go_sem])))
 refine hK3 _ ?_;clear hK3 K3
 refine aa.block ?_
 refine aa.mK (ι:=Nat) [4,5,9,10,11,12,13,14,15,16,17,18] (fun(i:Nat)=>[(8,i64 i)]) (fun(i:Nat)=>i≤l.length∧(l.take i).all (fun o=>!decide (o.id=x.ref))=true) (fun(i:Nat)=>l.length-i) (0) ?_ ?_ ?_
 ·(try simp only[go_sem]);try(simp;done)
 ·exact⟨by omega,by simp⟩
 rintro i ⟨h1,h2⟩
 simp only[go_sem]
 refine aa.ah fun K4 hK4=>?_
 refine aa.region ?_
 simp only[go_sem]
 refine hK4 _ ?_;clear hK4 K4
 refine aa.ah fun K5 hK5=>?_
 refine aa.cond rfl (fun c9=>?_) (fun c9=>?_)
 ·(
   try simp only[dD] at c9
   refine aa.skip ?_
   refine hK5 _ ?_;clear hK5 K5
   refine aa.ah fun K6 hK6=>?_
   refine aa.block ?_
   refine aa.ah fun K7 hK7=>?_
   refine aa.region ?_
   simp only[go_sem]
   refine hK7 _ ?_;clear hK7 K7
   refine aa.ah fun K8 hK8=>?_
   refine aa.region ?_
   simp only[go_sem]
   repeat'(first|(refine ak.one (DE _ _) ae rfl ?_;simp only[go_sem])|((refine aQ.nth ?_ (fun b hb=>?_));(focus((omega)));(try simp only[hb,go_sem])))
   refine hK8 _ ?_;clear hK8 K8
   refine aa.cond rfl (fun c16=>?_) (fun c16=>?_)
   ·(
     try simp only[dD] at c16
     refine aa.ah fun K9 hK9=>?_
     refine aa.region ?_
     simp only[go_sem]
     refine hK9 _ ?_;clear hK9 K9
     refine aa.ret ?_
     try simp only[go_sem]
     clear hK6 K6 hK2 K2
     (exact⟨[],.v _,rfl,rfl,by rw[EO hb af h2],rfl⟩))
   ·(
     try simp only[dD] at c16
     refine aa.skip ?_
     refine hK6 _ ?_;clear hK6 K6
     refine aa.region ?_
     simp only[go_sem]
     clear hK2 K2
     refine⟨i+1,?_,?_,?_⟩
     ·(try simp only[go_sem]);(try rw[aN ab ab]);simp
     ·exact⟨by omega,jQ hb h2 (by simp;assumption)⟩
     ·omega))
 ·(
   try simp only[dD] at c9
   refine aa.exit ?_
   simp only[go_sem]
   clear hK5 K5
   refine hK2 _ ?_;clear hK2 K2
   refine aa.ah fun K10 hK10=>?_
   refine aa.region ?_
   simp only[go_sem]
   refine hK10 _ ?_;clear hK10 K10
   refine aa.ret ?_
   try simp only[go_sem]
   (exact⟨[],.v _,rfl,rfl,by rw[EN ab h2],rfl⟩))
theorem XQ(l:List Bs)(id:Bs)(hl:l.length≤9223372036854775807):ai E 252 [.sl none 1 (l.map str),str id] (fun r t=>r=i64 (nP l id)∧t=[]):=by
 refine ai.aC (n:=19) (rs:=[.tmp 4]) Tryz.func252 rfl Tryz.ntmps252 rfl ?_
 refine aa.ah fun K1 hK1=>?_
 refine aa.region ?_
 simp only[go_sem]
 refine hK1 _ ?_;clear hK1 K1
 refine aa.ah fun K2 hK2=>?_
 refine aa.ah fun K3 hK3=>?_
 refine aa.region ?_
 simp only[go_sem]
 repeat'(((with_reducible refine And.intro ?_ ?_);(focus(((simp;done))));(try simp only[hb,go_sem])))
 refine hK3 _ ?_;clear hK3 K3
 refine aa.block ?_
 refine aa.mK (ι:=Nat) [4,5,9,10,11,12,13,14,15,16,17,18] (fun(i:Nat)=>[(8,i64 i)]) (fun(i:Nat)=>i≤l.length∧(l.take i).all (fun s=>!decide (id=s))=true) (fun(i:Nat)=>l.length-i) (0) ?_ ?_ ?_
 ·(try simp only[go_sem]);try(simp;done)
 ·exact⟨by omega,by simp⟩
 rintro i ⟨h1,h2⟩
 simp only[go_sem]
 refine aa.ah fun K4 hK4=>?_
 refine aa.region ?_
 simp only[go_sem]
 refine hK4 _ ?_;clear hK4 K4
 refine aa.ah fun K5 hK5=>?_
 refine aa.cond rfl (fun c9=>?_) (fun c9=>?_)
 ·(
   try simp only[dD] at c9
   refine aa.skip ?_
   refine hK5 _ ?_;clear hK5 K5
   refine aa.ah fun K6 hK6=>?_
   refine aa.block ?_
   refine aa.ah fun K7 hK7=>?_
   refine aa.region ?_
   simp only[go_sem]
   refine hK7 _ ?_;clear hK7 K7
   refine aa.ah fun K8 hK8=>?_
   refine aa.region ?_
   simp only[go_sem]
   repeat'(((refine aQ.nth ?_ (fun b hb=>?_));(focus((omega)));(try simp only[hb,go_sem])))
   refine hK8 _ ?_;clear hK8 K8
   refine aa.cond rfl (fun c16=>?_) (fun c16=>?_)
   ·(
     try simp only[dD] at c16
     refine aa.ah fun K9 hK9=>?_
     refine aa.region ?_
     simp only[go_sem]
     refine hK9 _ ?_;clear hK9 K9
     refine aa.ret ?_
     try simp only[go_sem]
     clear hK6 K6 hK2 K2
     (exact⟨[],.v _,rfl,rfl,by rw[Qo hb af h2],rfl⟩))
   ·(
     try simp only[dD] at c16
     refine aa.skip ?_
     refine hK6 _ ?_;clear hK6 K6
     refine aa.region ?_
     simp only[go_sem]
     clear hK2 K2
     refine⟨i+1,?_,?_,?_⟩
     ·(try simp only[go_sem]);(try rw[aN ab ab]);simp
     ·exact⟨by omega,jQ hb h2 (by simp;assumption)⟩
     ·omega))
 ·(
   try simp only[dD] at c9
   refine aa.exit ?_
   simp only[go_sem]
   clear hK5 K5
   refine hK2 _ ?_;clear hK2 K2
   refine aa.ah fun K10 hK10=>?_
   refine aa.region ?_
   simp only[go_sem]
   refine hK10 _ ?_;clear hK10 K10
   refine aa.ret ?_
   try simp only[go_sem]
   (exact⟨[],.v _,rfl,rfl,by rw[Qn ab h2],rfl⟩))
theorem XA(l:List Bs)(id:Bs)(hl:l.length≤9223372036854775807):ai E 210 [.sl none 1 (l.map str),str id] (fun r t=>r=bl (nO l id)∧t=[]):=by
 refine ai.aC (n:=9) (rs:=[.tmp 4]) Tryz.func210 rfl Tryz.ntmps210 rfl ?_
 refine aa.ah fun K1 hK1=>?_
 refine aa.region ?_
 simp only[go_sem]
 refine hK1 _ ?_;clear hK1 K1
 refine aa.ah fun K2 hK2=>?_
 refine aa.region ?_
 simp only[go_sem]
 repeat'((refine ak.one (XQ _ _ ab) ae rfl ?_;simp only[go_sem]))
 refine hK2 _ ?_;clear hK2 K2
 refine aa.ret ?_
 try simp only[go_sem]
 exact⟨[],.v _,rfl,rfl,rfl,rfl⟩
theorem uS{b:Bk}{x:Ex}(h:(dB b.aq x.ord x.au x.aE).2=0):ek b x=(⟨(dB b.aq x.ord x.au x.aE).1,b.av++[pb x],b.ids,b.clock,b.bad⟩,0):=by unfold ek;simp[h]
theorem Ox{b:Bk}{x:Ex}(h:(dB b.aq x.ord x.au x.aE).2=1):ek b x=(b,4):=by unfold ek;simp[h]
theorem Oz{b:Bk}{x:Ex}(h:(dB b.aq x.ord x.au x.aE).2=9):ek b x=(b,5):=by unfold ek;simp[h]
theorem Oy{b:Bk}{x:Ex}(h0:¬(dB b.aq x.ord x.au x.aE).2=0)(h1:¬(dB b.aq x.ord x.au x.aE).2=1)(h:¬(dB b.aq x.ord x.au x.aE).2=9):ek b x=(b,2):=by unfold ek;simp[h0,h1,h]
abbrev Z0:Option (List AV):=some [.agg [.aw,.aw,.aw,i64 0,i64 0]]
theorem jG:∀i,i≠2→i<6→cA [0,1,2,3,4,5] i=some i:=by
 intro i h1 h2
 have:i=0∨i=1∨i=3∨i=4∨i=5:=by omega
 rcases this with rfl|rfl|rfl|rfl|rfl<;>rfl
theorem XG:∀i,i≠2→i<6→cA [0,1,7,3,4,5] i=some i:=by
 intro i h1 h2
 have:i=0∨i=1∨i=3∨i=4∨i=5:=by omega
 rcases this with rfl|rfl|rfl|rfl|rfl<;>rfl
theorem yM{l:List Dn}(sp:List AV):(l.map cG++sp).take l.length=l.map cG:=List.take_left' aB
theorem Xo(σ:Nat→Option Nat)(l:List Dn)(d:Dn)(m:Nat):(l.map cG++[cG d]++spare 9 m).map (AV.cz σ)=(l++[d]).map cG++spare 9 m:=by
 rw[show l.map cG++[cG d]=(l++[d]).map cG by simp,pa]
theorem jZ{b:Bk}{m:Nat}{x:Ex}{rest:List (Option (List AV))}:jF (Z0::some [aT b m]::some (aR b m)::some [ao x]::some [ao x]::some [ao x]::rest) [0,1,2,3,4,5]=[Z0,some [aT b m],some (aR b m),some [ao x],some [ao x],some [ao x]]:=by
 show[Z0,some [aT b m],some ((aR b m).map _),some [ao x],some [ao x],some [ao x]]=_
 rw[pa]
theorem Vt{os:List Od}{l:List Dn}{d:Dn}{k c m:Nat}{ids y1 y2:AV}{x:Ex}{bx:Option (List AV)}(hi:ids.b7 (cA [0,1,7,3,4,5])=ids)(h1:y1.b7 (cA [0,1,7,3,4,5])=y1)(h2:y2.b7 (cA [0,1,7,3,4,5])=y2):
 jF [Z0,some [.agg [bz os,.mu 7 9 0 k c,ids,y1,y2]],none,some [ao x],some [ao x],some [ao x],bx,some (l.map cG++[cG d]++spare 9 m)] [0,1,7,3,4,5] =
  [Z0,some [.agg [bz os,.mu 2 9 0 k c,ids,y1,y2]],some ((l++[d]).map cG++spare 9 m),some [ao x],some [ao x],some [ao x]]:=by
 show[Z0,some [.agg [bz os,.mu 2 9 0 k c,ids.b7 _,y1.b7 _,y2.b7 _]],some ((l.map cG++[cG d]++spare 9 m).map _),some [ao x],some [ao x],some [ao x]]=_
 rw[Xo,hi,h1,h2]
theorem vT(no:Nat){b:Bk}{m:Nat}{l:List (Option (List AV))}(hno:3≤no)(hl:iH no 1 l=true):iH no 1 (Z0::some [aT b m]::some (aR b m)::l)=true:=by
 have h2:decide (2<no)=true:=decide_eq_true ab
 have hr:((aR b m).all fun e=>e.leaves.all (AV.bw no 1))=true:=Xq no 1 b.av m
 unfold iH at hl ⊢
 rw[List.all_cons,List.all_cons,List.all_cons]
 simp only[Bool.and_eq_true]
 refine⟨rfl,?_,hr,hl⟩
 show((true&&(decide (2<no)&&(true&&(true&&(true&&true)))))&&true)=true
 rw[h2];rfl
theorem gW{b:Bk}{m:Nat}{x:Ex}:iH 6 1 [Z0,some [aT b m],some (aR b m),some [ao x],some [ao x],some [ao x]]=true:=vT 6 aj rfl
theorem iu{b:Bk}{m:Nat}{x:Ex}:iH 5 1 [Z0,some [aT b m],some (aR b m),some [ao x],some [ao x]]=true:=vT 5 aj rfl
theorem q9{b:Bk}{m:Nat}{x:Ex}:iH 4 1 [Z0,some [aT b m],some (aR b m),some [ao x]]=true:=vT 4 aj rfl
set_option maxRecDepth 100000 in
theorem OE{ops:Array Oper}{l:List Oper}{Q:Exit→St→Prop}{tmps up:List AV}{gl:Nat→Option (List AV)}{b:Bk}{x:Ex}{m:Nat}{dst:Option Tmp}{x0 x1:Operand}{tys:Array TypeId}{ty:TypeId}{pos:String}{after:Array Edge}
 (hx0:St.ev ⟨tmps,[Z0,some [aT b m],some (aR b m),some [ao x],some [ao x],some [ao x]],[b.ids.length],gl,none,up⟩ x0= .ptr 1 0 0) (hx1:St.ev ⟨tmps,[Z0,some [aT b m],some (aR b m),some [ao x],some [ao x],some [ao x]],[b.ids.length],gl,none,up⟩ x1=ao x)
 (hq:x.au≤4611686018427387904) (ho:b.aq.length≤1000000) (hf:b.av.length≤1000000) (hup:(tmps++up).all (kp 6)=true)
 (h:∀(b':Bk) (e:Int) (m':Nat),ek b x=(b',e)→al E ops l Q (St.put ⟨tmps,[Z0,some [aT b' m'],some (aR b' m'),some [ao x],some [ao x],some [ao x]],[b'.ids.length],gl,none,up⟩ dst (i64 e))):
 al E ops (⟨dst,.call ⟨.value (.func 255),#[x0,x1],tys⟩,ty,pos,after,none⟩::l) Q ⟨tmps,[Z0,some [aT b m],some (aR b m),some [ao x],some [ao x],some [ao x]],[b.ids.length],gl,none,up⟩:=by
 refine al.call (caps:=[]) (rs:=[.tmp 4]) Tryz.func255 rfl Tryz.ntmps255 rfl ae rfl rfl ?_
 show aa E _ _ ⟨([St.ev ⟨tmps,[Z0,some [aT b m],some (aR b m),some [ao x],some [ao x],some [ao x]],[b.ids.length],gl,none,up⟩ x0,St.ev ⟨tmps,[Z0,some [aT b m],some (aR b m),some [ao x],some [ao x],some [ao x]],[b.ids.length],gl,none,up⟩ x1]++[])++List.replicate (58-2) (.v undef),[Z0,some [aT b m],some (aR b m),some [ao x],some [ao x],some [ao x]],[b.ids.length],gl,none,tmps++up⟩
 rw[hx0,hx1]
 have hK:∀(tm:List AV) (ow:List (Option (List AV))) (tk:List Nat) (b':Bk) (e:Int) (m':Nat),ek b x=(b',e)→ow=[Z0,some [aT b' m'],some (aR b' m'),some [ao x],some [ao x],some [ao x]]→tk=[b'.ids.length]→tm[4]?=some (i64 e)→bV E.P [.tmp 4] ⟨tmps,[Z0,some [aT b m],some (aR b m),some [ao x],some [ao x],some [ao x]],[b.ids.length],gl,none,up⟩ (fun s z=>al E ops l Q (s.put dst z)) .ret ⟨tm,ow,tk,gl,none,tmps++up⟩:=by
  intro tm ow tk b' e m' hb' how htk h4
  subst how;subst htk
  refine⟨rfl,?_⟩
  have:St.ev ⟨tm,[Z0,some [aT b' m'],some (aR b' m'),some [ao x],some [ao x],some [ao x]],[b'.ids.length],gl,none,tmps++up⟩ (.tmp 4)=i64 e:=by simp[St.ev,List.getD_eq_getElem?_getD,h4]
  show al E ops l Q (St.put _ dst (fu [St.ev _ (.tmp 4)]))
  rw[this]
  exact h b' e m' hb'
 generalize bV E.P [.tmp 4] ⟨tmps,[Z0,some [aT b m],some (aR b m),some [ao x],some [ao x],some [ao x]],[b.ids.length],gl,none,up⟩ (fun s z=>al E ops l Q (s.put dst z))=Q' at hK ⊢
 generalize tmps++up=up' at hup hK ⊢
 clear h hx0 hx1
 refine aa.ah fun K1 hK1=>?_
 refine aa.region ?_
 simp only[go_sem]
 refine hK1 _ ?_;clear hK1 K1
 refine aa.ah fun K2 hK2=>?_
 refine aa.bA [0,1,2,3,4,5,6,7,8,9,10,11,12,13,14,15] [] ae ae rfl ?_
 simp only[go_sem]
 repeat'((refine ak.of (UU b.aq x.ord x.au x.aE hq ab) ae rfl ?_;rintro r t ⟨⟨y,rfl,hy⟩,rfl⟩<;>simp only[go_sem]))
 refine hK2 _ ?_;clear hK2 K2
 refine aa.ah fun K3 hK3=>?_
 refine aa.ah fun K4 hK4=>?_
 refine aa.region ?_
 simp only[go_sem]
 refine hK4 _ ?_;clear hK4 K4
 refine aa.block ?_
 refine aa.ah fun K5 hK5=>?_
 refine aa.region ?_
 simp only[go_sem]
 refine hK5 _ ?_;clear hK5 K5
 refine aa.cond rfl (fun c22=>?_) (fun c22=>?_)
 ·(
   try simp only[dD] at c22
   refine aa.skip ?_
   refine hK3 _ ?_;clear hK3 K3
   refine aa.ah fun K6 hK6=>?_
   have hx9:=hy af
   subst hx9
   refine aa.region ?_
   simp only[go_sem]
   refine hK6 _ ?_;clear hK6 K6
   refine aa.ah fun K7 hK7=>?_
   refine aa.bA [0,1,2,3,4,5,6,7,8,9,10,11,12,13,14,15,16,17,18,19,20,21,22,23,24,25,26] [] ae ae rfl ?_
   simp only[go_sem]
   repeat'(((with_reducible refine And.intro ?_ ?_);(focus((first|omega|(simp;done)|(simp[cZ];done))));(try simp only[hb,go_sem])))
   intro m2
   simp only[go_sem,yM]
   refine hK7 _ ?_;clear hK7 K7
   refine aa.ah fun K8 hK8=>?_
   refine aa.region ?_
   simp only[go_sem]
   refine hK8 _ ?_;clear hK8 K8
   refine aa.dK [0,1,7,3,4,5] [Z0,some [aT (ek b x).1 m2],some (aR (ek b x).1 m2),some [ao x],some [ao x],some [ao x]] [b.ids.length] 6 aj XG hup (Nat.le_refl _) (by rw[uS af];exact(Vt (d:=pb x) rfl rfl rfl).trans (by simp[aR])) gW ⟨rfl,trivial⟩ (Nat.le_refl _) ?_
   refine aa.ret ?_
   try simp only[go_sem]
   (exact hK _ _ _ (ek b x).1 0 m2 (by rw[uS af]) rfl (by rw[uS af]) rfl))
 ·(
   try simp only[dD] at c22
   refine aa.ah fun K9 hK9=>?_
   refine aa.region ?_
   simp only[go_sem]
   refine hK9 _ ?_;clear hK9 K9
   refine aa.cond rfl (fun c24=>?_) (fun c24=>?_)
   ·(
     try simp only[dD] at c24
     refine aa.ah fun K10 hK10=>?_
     refine aa.region ?_
     simp only[go_sem]
     refine hK10 _ ?_;clear hK10 K10
     refine aa.dK [0,1,2,3,4,5] [Z0,some [aT b m],some (aR b m),some [ao x],some [ao x],some [ao x]] [b.ids.length] 6 aj jG hup (Nat.le_refl _) jZ gW ⟨rfl,trivial⟩ (Nat.le_refl _) ?_
     refine aa.ret ?_
     try simp only[go_sem]
     clear hK3 K3
     (exact hK _ _ _ b _ m (Ox af) rfl rfl rfl))
   ·(
     try simp only[dD] at c24
     refine aa.ah fun K11 hK11=>?_
     refine aa.region ?_
     simp only[go_sem]
     refine hK11 _ ?_;clear hK11 K11
     refine aa.cond rfl (fun c26=>?_) (fun c26=>?_)
     ·(
       try simp only[dD] at c26
       refine aa.ah fun K12 hK12=>?_
       refine aa.region ?_
       simp only[go_sem]
       refine hK12 _ ?_;clear hK12 K12
       refine aa.dK [0,1,2,3,4,5] [Z0,some [aT b m],some (aR b m),some [ao x],some [ao x],some [ao x]] [b.ids.length] 6 aj jG hup (Nat.le_refl _) jZ gW ⟨rfl,trivial⟩ (Nat.le_refl _) ?_
       refine aa.ret ?_
       try simp only[go_sem]
       clear hK3 K3
       (exact hK _ _ _ b _ m (Oz af) rfl rfl rfl))
     ·(
       try simp only[dD] at c26
       refine aa.ah fun K13 hK13=>?_
       refine aa.region ?_
       simp only[go_sem]
       refine hK13 _ ?_;clear hK13 K13
       refine aa.dK [0,1,2,3,4,5] [Z0,some [aT b m],some (aR b m),some [ao x],some [ao x],some [ao x]] [b.ids.length] 6 aj jG hup (Nat.le_refl _) jZ gW ⟨rfl,trivial⟩ (Nat.le_refl _) ?_
       refine aa.ret ?_
       try simp only[go_sem]
       clear hK3 K3
       (exact hK _ _ _ b _ m (Oy af af af) rfl rfl rfl))))
theorem wu{b:Bk}{x:Ex}(h:(dA b.aq x.ref x.ord x.au x.aE).2=0):eH b x=(⟨(dA b.aq x.ref x.ord x.au x.aE).1,b.av,b.ids,b.clock,b.bad⟩,0):=by unfold eH;simp[h]
theorem Wz{b:Bk}{x:Ex}(h:(dA b.aq x.ref x.ord x.au x.aE).2=1):eH b x=(b,4):=by unfold eH;simp[h]
theorem WA{b:Bk}{x:Ex}(h0:¬(dA b.aq x.ref x.ord x.au x.aE).2=0)(h1:¬(dA b.aq x.ref x.ord x.au x.aE).2=1):eH b x=(b,2):=by unfold eH;simp[h0,h1]
theorem DB{b:Bk}{x:Ex}(h:gk b.av x.ref=none):cT b x=(b,6):=by unfold cT;simp[h]
section
variable{b:Bk}{x:Ex}{n:Nat}{f:Dn}(e2:gk b.av x.ref=some n)(hb:b.av[n]?=some f)
include e2 hb
theorem DC(h:f.live=false):cT b x=(b,6):=by unfold cT;simp[e2,hb,h]
theorem DD(h:10<x.time-f.time):cT b x=(b,6):=by unfold cT;simp[e2,hb,h]
variable(hl:f.live=true)(ht:¬10<x.time-f.time)
include hl ht
theorem r9(h:f.ord≠x.ord∨f.acc≠x.acc∨f.sym≠x.sym∨f.aD≠x.aD):cT b x=(b,3):=by
 unfold cT;simp only[e2,pg hb]
 rw[if_neg (by simp[hl];omega),if_pos h]
variable(h1:f.ord=x.ord)(h2:f.acc=x.acc)(h3:f.sym=x.sym)(h4:f.aD=x.aD)
include h1 h2 h3 h4
theorem uf(h:x.kind=7):cT b x=(⟨b.aq,b.av.set n ⟨f.id,f.ord,f.acc,f.sym,f.aD,f.au,f.aE,f.time,false⟩,b.ids,b.clock,b.bad⟩,0):=by
 unfold cT;simp only[e2,pg hb]
 rw[if_neg (by simp[hl];omega),if_neg (by simp[h1,h2,h3,h4]),if_pos h]
variable(h5:¬x.kind=7)
include h5
theorem DA(h:f.au<x.au):cT b x=(b,4):=by
 unfold cT;simp only[e2,pg hb]
 rw[if_neg (by simp[hl];omega),if_neg (by simp[h1,h2,h3,h4]),if_neg h5,if_pos h]
variable(h6:¬f.au<x.au)
include h6
theorem xy(h:(findF b.aq f.ord).2=false∨il { (findF b.aq f.ord).1 with aD:=f.aD } x.aE=false):cT b x=(b,5):=by
 unfold cT;simp only[e2,pg hb]
 rw[if_neg (by simp[hl];omega),if_neg (by simp[h1,h2,h3,h4]),if_neg h5,if_neg h6,if_pos h]
theorem ug(h7:(findF b.aq f.ord).2=true)(h8:il { (findF b.aq f.ord).1 with aD:=f.aD } x.aE=true):cT b x=(⟨b.aq,b.av.set n ⟨f.id,f.ord,f.acc,f.sym,f.aD,x.au,x.aE,f.time,f.live⟩,b.ids,b.clock,b.bad⟩,0):=by
 unfold cT;simp only[e2,pg hb]
 rw[if_neg (by simp[hl];omega),if_neg (by simp[h1,h2,h3,h4]),if_neg h5,if_neg h6,if_neg (by simp[h7,h8])]
end
theorem vU{os ids y1 y2:AV}{k c m:Nat}{l:List Dn}{x:Ex}{rest:List (Option (List AV))}(h0:os.b7 (cA [0,1,2,3,4,5])=os)(hi:ids.b7 (cA [0,1,2,3,4,5])=ids)(h1:y1.b7 (cA [0,1,2,3,4,5])=y1)(h2:y2.b7 (cA [0,1,2,3,4,5])=y2):
 jF (Z0::some [.agg [os,.mu 2 9 0 k c,ids,y1,y2]]::some (l.map cG++spare 9 m)::some [ao x]::some [ao x]::some [ao x]::rest) [0,1,2,3,4,5]=[Z0,some [.agg [os,.mu 2 9 0 k c,ids,y1,y2]],some (l.map cG++spare 9 m),some [ao x],some [ao x],some [ao x]]:=by
 show[Z0,some [.agg [os.b7 _,.mu 2 9 0 k c,ids.b7 _,y1.b7 _,y2.b7 _]],some ((l.map cG++spare 9 m).map _),some [ao x],some [ao x],some [ao x]]=_
 rw[pa,h0,hi,h1,h2]
theorem abE{a b:Int}(h1:0≤a∧a≤4611686018427387904)(h2:0≤b∧b≤4611686018427387904):IntKind.i64.wrap (a-b)=a-b:=aN ab ab
set_option maxRecDepth 100000 in
theorem WU{ops:Array Oper}{l:List Oper}{Q:Exit→St→Prop}{tmps up:List AV}{gl:Nat→Option (List AV)}{b:Bk}{x:Ex}{m:Nat}{dst:Option Tmp}{x0 x1:Operand}{tys:Array TypeId}{ty:TypeId}{pos:String}{after:Array Edge}
 (hx0:St.ev ⟨tmps,[Z0,some [aT b m],some (aR b m),some [ao x],some [ao x],some [ao x]],[b.ids.length],gl,none,up⟩ x0= .ptr 1 0 0) (hx1:St.ev ⟨tmps,[Z0,some [aT b m],some (aR b m),some [ao x],some [ao x],some [ao x]],[b.ids.length],gl,none,up⟩ x1=ao x)
  (ho:b.aq.length≤1000000) (hf:b.av.length≤1000000) (hup:(tmps++up).all (kp 6)=true)
 (h:∀(b':Bk) (e:Int) (m':Nat),eH b x=(b',e)→al E ops l Q (St.put ⟨tmps,[Z0,some [aT b' m'],some (aR b' m'),some [ao x],some [ao x],some [ao x]],[b'.ids.length],gl,none,up⟩ dst (i64 e))):
 al E ops (⟨dst,.call ⟨.value (.func 256),#[x0,x1],tys⟩,ty,pos,after,none⟩::l) Q ⟨tmps,[Z0,some [aT b m],some (aR b m),some [ao x],some [ao x],some [ao x]],[b.ids.length],gl,none,up⟩:=by
 refine al.call (caps:=[]) (rs:=[.tmp 4]) Tryz.func256 rfl Tryz.ntmps256 rfl ae rfl rfl ?_
 show aa E _ _ ⟨([St.ev ⟨tmps,[Z0,some [aT b m],some (aR b m),some [ao x],some [ao x],some [ao x]],[b.ids.length],gl,none,up⟩ x0,St.ev ⟨tmps,[Z0,some [aT b m],some (aR b m),some [ao x],some [ao x],some [ao x]],[b.ids.length],gl,none,up⟩ x1]++[])++List.replicate (32-2) (.v undef),[Z0,some [aT b m],some (aR b m),some [ao x],some [ao x],some [ao x]],[b.ids.length],gl,none,tmps++up⟩
 rw[hx0,hx1]
 have hK:∀(tm:List AV) (ow:List (Option (List AV))) (tk:List Nat) (b':Bk) (e:Int) (m':Nat),eH b x=(b',e)→ow=[Z0,some [aT b' m'],some (aR b' m'),some [ao x],some [ao x],some [ao x]]→tk=[b'.ids.length]→tm[4]?=some (i64 e)→bV E.P [.tmp 4] ⟨tmps,[Z0,some [aT b m],some (aR b m),some [ao x],some [ao x],some [ao x]],[b.ids.length],gl,none,up⟩ (fun s z=>al E ops l Q (s.put dst z)) .ret ⟨tm,ow,tk,gl,none,tmps++up⟩:=by
  intro tm ow tk b' e m' hb' how htk h4
  subst how;subst htk
  refine⟨rfl,?_⟩
  have:St.ev ⟨tm,[Z0,some [aT b' m'],some (aR b' m'),some [ao x],some [ao x],some [ao x]],[b'.ids.length],gl,none,tmps++up⟩ (.tmp 4)=i64 e:=by simp[St.ev,List.getD_eq_getElem?_getD,h4]
  show al E ops l Q (St.put _ dst (fu [St.ev _ (.tmp 4)]))
  rw[this]
  exact h b' e m' hb'
 generalize bV E.P [.tmp 4] ⟨tmps,[Z0,some [aT b m],some (aR b m),some [ao x],some [ao x],some [ao x]],[b.ids.length],gl,none,up⟩ (fun s z=>al E ops l Q (s.put dst z))=Q' at hK ⊢
 generalize tmps++up=up' at hup hK ⊢
 clear h hx0 hx1
 refine aa.ah fun K1 hK1=>?_
 refine aa.region ?_
 simp only[go_sem]
 refine hK1 _ ?_;clear hK1 K1
 refine aa.ah fun K2 hK2=>?_
 refine aa.bA [0,1,2,3,4,5,6,7,8,9,10,11,12,13,14,15,16,17] [] ae ae rfl ?_
 simp only[go_sem]
 repeat'((refine ak.of (UH b.aq x.ref x.ord x.au x.aE ab) ae rfl ?_;rintro r t ⟨⟨y,rfl,hy⟩,rfl⟩<;>simp only[go_sem]))
 refine hK2 _ ?_;clear hK2 K2
 refine aa.ah fun K3 hK3=>?_
 refine aa.ah fun K4 hK4=>?_
 refine aa.region ?_
 simp only[go_sem]
 refine hK4 _ ?_;clear hK4 K4
 refine aa.block ?_
 refine aa.ah fun K5 hK5=>?_
 refine aa.region ?_
 simp only[go_sem]
 refine hK5 _ ?_;clear hK5 K5
 refine aa.cond rfl (fun c24=>?_) (fun c24=>?_)
 ·(
   try simp only[dD] at c24
   refine aa.skip ?_
   refine hK3 _ ?_;clear hK3 K3
   refine aa.ah fun K6 hK6=>?_
   have hx9:=hy af
   subst hx9
   refine aa.region ?_
   simp only[go_sem]
   refine hK6 _ ?_;clear hK6 K6
   refine aa.ah fun K7 hK7=>?_
   refine aa.region ?_
   simp only[go_sem]
   refine hK7 _ ?_;clear hK7 K7
   refine aa.dK [0,1,2,3,4,5] [Z0,some [aT (eH b x).1 m],some (aR (eH b x).1 m),some [ao x],some [ao x],some [ao x]] [b.ids.length] 6 aj jG hup (Nat.le_refl _) (by rw[wu af];exact vU rfl rfl rfl rfl) gW ⟨rfl,trivial⟩ (Nat.le_refl _) ?_
   refine aa.ret ?_
   try simp only[go_sem]
   (exact hK _ _ _ (eH b x).1 0 m (by rw[wu af]) rfl (by rw[wu af]) rfl))
 ·(
   try simp only[dD] at c24
   refine aa.ah fun K8 hK8=>?_
   refine aa.region ?_
   simp only[go_sem]
   refine hK8 _ ?_;clear hK8 K8
   refine aa.cond rfl (fun c26=>?_) (fun c26=>?_)
   ·(
     try simp only[dD] at c26
     refine aa.ah fun K9 hK9=>?_
     refine aa.region ?_
     simp only[go_sem]
     refine hK9 _ ?_;clear hK9 K9
     refine aa.dK [0,1,2,3,4,5] [Z0,some [aT b m],some (aR b m),some [ao x],some [ao x],some [ao x]] [b.ids.length] 6 aj jG hup (Nat.le_refl _) jZ gW ⟨rfl,trivial⟩ (Nat.le_refl _) ?_
     refine aa.ret ?_
     try simp only[go_sem]
     clear hK3 K3
     (exact hK _ _ _ b _ m (Wz af) rfl rfl rfl))
   ·(
     try simp only[dD] at c26
     refine aa.ah fun K10 hK10=>?_
     refine aa.region ?_
     simp only[go_sem]
     refine hK10 _ ?_;clear hK10 K10
     refine aa.dK [0,1,2,3,4,5] [Z0,some [aT b m],some (aR b m),some [ao x],some [ao x],some [ao x]] [b.ids.length] 6 aj jG hup (Nat.le_refl _) jZ gW ⟨rfl,trivial⟩ (Nat.le_refl _) ?_
     refine aa.ret ?_
     try simp only[go_sem]
     clear hK3 K3
     (exact hK _ _ _ b _ m (WA af af) rfl rfl rfl)))
set_option maxRecDepth 100000 in
theorem xz{ops:Array Oper}{l:List Oper}{Q:Exit→St→Prop}{tmps up:List AV}{gl:Nat→Option (List AV)}{b:Bk}{x:Ex}{m:Nat}{dst:Option Tmp}{x0 x1:Operand}{tys:Array TypeId}{ty:TypeId}{pos:String}{after:Array Edge}
 (hx0:St.ev ⟨tmps,[Z0,some [aT b m],some (aR b m),some [ao x],some [ao x],some [ao x]],[b.ids.length],gl,none,up⟩ x0= .ptr 1 0 0) (hx1:St.ev ⟨tmps,[Z0,some [aT b m],some (aR b m),some [ao x],some [ao x],some [ao x]],[b.ids.length],gl,none,up⟩ x1=ao x)
 (htx:0≤x.time∧x.time≤4611686018427387904) (htf:∀f∈b.av,0≤f.time∧f.time≤4611686018427387904) (ho:b.aq.length≤1000000) (hf:b.av.length≤1000000) (hup:(tmps++up).all (kp 6)=true)
 (h:∀(b':Bk) (e:Int) (m':Nat),cT b x=(b',e)→al E ops l Q (St.put ⟨tmps,[Z0,some [aT b' m'],some (aR b' m'),some [ao x],some [ao x],some [ao x]],[b'.ids.length],gl,none,up⟩ dst (i64 e))):
 al E ops (⟨dst,.call ⟨.value (.func 254),#[x0,x1],tys⟩,ty,pos,after,none⟩::l) Q ⟨tmps,[Z0,some [aT b m],some (aR b m),some [ao x],some [ao x],some [ao x]],[b.ids.length],gl,none,up⟩:=by
 refine al.call (caps:=[]) (rs:=[.tmp 4]) Tryz.func254 rfl Tryz.ntmps254 rfl ae rfl rfl ?_
 show aa E _ _ ⟨([St.ev ⟨tmps,[Z0,some [aT b m],some (aR b m),some [ao x],some [ao x],some [ao x]],[b.ids.length],gl,none,up⟩ x0,St.ev ⟨tmps,[Z0,some [aT b m],some (aR b m),some [ao x],some [ao x],some [ao x]],[b.ids.length],gl,none,up⟩ x1]++[])++List.replicate (130-2) (.v undef),[Z0,some [aT b m],some (aR b m),some [ao x],some [ao x],some [ao x]],[b.ids.length],gl,none,tmps++up⟩
 rw[hx0,hx1]
 have hK:∀(tm:List AV) (ow:List (Option (List AV))) (tk:List Nat) (b':Bk) (e:Int) (m':Nat),cT b x=(b',e)→ow=[Z0,some [aT b' m'],some (aR b' m'),some [ao x],some [ao x],some [ao x]]→tk=[b'.ids.length]→tm[4]?=some (i64 e)→bV E.P [.tmp 4] ⟨tmps,[Z0,some [aT b m],some (aR b m),some [ao x],some [ao x],some [ao x]],[b.ids.length],gl,none,up⟩ (fun s z=>al E ops l Q (s.put dst z)) .ret ⟨tm,ow,tk,gl,none,tmps++up⟩:=by
  intro tm ow tk b' e m' hb' how htk h4
  subst how;subst htk
  refine⟨rfl,?_⟩
  have:St.ev ⟨tm,[Z0,some [aT b' m'],some (aR b' m'),some [ao x],some [ao x],some [ao x]],[b'.ids.length],gl,none,tmps++up⟩ (.tmp 4)=i64 e:=by simp[St.ev,List.getD_eq_getElem?_getD,h4]
  show al E ops l Q (St.put _ dst (fu [St.ev _ (.tmp 4)]))
  rw[this]
  exact h b' e m' hb'
 generalize bV E.P [.tmp 4] ⟨tmps,[Z0,some [aT b m],some (aR b m),some [ao x],some [ao x],some [ao x]],[b.ids.length],gl,none,up⟩ (fun s z=>al E ops l Q (s.put dst z))=Q' at hK ⊢
 generalize tmps++up=up' at hup hK ⊢
 clear h hx0 hx1
 refine aa.ah fun K1 hK1=>?_
 refine aa.region ?_
 simp only[go_sem]
 refine hK1 _ ?_;clear hK1 K1
 refine aa.ah fun K2 hK2=>?_
 refine aa.region ?_
 simp only[go_sem]
 repeat'((refine ak.hP (LL b.av x ab) ae rfl (.cons (.one (.jy rfl aB (sk _))) (.cons (.fn (.cons (.ptr (e:=ao x) rfl (Ko x)) .nil)) .nil)) ?_;simp only[go_sem]))
 refine hK2 _ ?_;clear hK2 K2
 refine aa.ah fun K3 hK3=>?_
 refine aa.ah fun K4 hK4=>?_
 rcases EM b.av x.ref with⟨e,e2⟩|⟨n,f,e,e2,hb⟩<;>simp only[e]
 all_goals first|have hn:n<b.av.length:=cu hb|skip
 all_goals first|have hg:=yK hb (spare 9 m)|have hg:True:=trivial
 all_goals first|have hw:=abE htx (htf f (List.mem_of_getElem? hb))|have hw:True:=trivial
 all_goals(
  refine aa.bA [0,1,2,3,4,5,6,7,8,9,10,11,12,13,14,15,16,17,18,19,20,21,22,23,24,25,26] [] ae ae rfl ?_
  simp only[go_sem,hg,hw]
  repeat'(first|(refine aP.df (fun h=>?_) (fun h=>?_)<;>simp only[h,go_sem,hg,hw]<;>try simp only[dD] at h)|(refine aP.split (fun h=>?_) (fun h=>?_)<;>simp only[h,go_sem,hg,hw]<;>try simp only[dD] at h)|((with_reducible refine And.intro ?_ ?_);(focus((omega)));(try simp only[hb,go_sem,hg,hw])))
  all_goals(
   refine hK4 _ ?_;clear hK4 K4
   refine aa.cond rfl (fun c41=>?_) (fun c41=>?_)
   ·(
     try simp only[dD] at c41
     refine aa.ah fun K5 hK5=>?_
     refine aa.region ?_
     simp only[go_sem]
     refine hK5 _ ?_;clear hK5 K5
     refine aa.dK [0,1,2,3,4,5] [Z0,some [aT b m],some (aR b m),some [ao x],some [ao x],some [ao x]] [b.ids.length] 6 aj jG hup (Nat.le_refl _) jZ gW ⟨rfl,trivial⟩ (Nat.le_refl _) ?_
     refine aa.ret ?_
     try simp only[go_sem]
     clear hK3 K3
     first
     |(exfalso;omega)
     |exact hK _ _ _ b _ m (DB e2) rfl rfl rfl
     |exact hK _ _ _ b _ m (DC e2 hb af) rfl rfl rfl
     |exact hK _ _ _ b _ m (DD e2 hb af) rfl rfl rfl)
   ·first|exact Bool.noConfusion c41|(
     try simp only[dD] at c41
     refine aa.skip ?_
     refine hK3 _ ?_;clear hK3 K3
     refine aa.ah fun K6 hK6=>?_
     refine aa.region ?_
     simp only[go_sem,hg]
     repeat'(((with_reducible refine And.intro ?_ ?_);(focus((omega)));(try simp only[hb,go_sem,hg])))
     refine hK6 _ ?_;clear hK6 K6
     refine aa.ah fun K7 hK7=>?_
     refine aa.ah fun K8 hK8=>?_
     refine aa.bA [0,1,2,3,4,5,6,7,8,9,10,11,12,13,14,15,16,17,18,19,20,21,22,23,24,25,26,27,28,29,30,31,32,33] [] ae ae rfl ?_
     simp only[go_sem,hg]
     repeat'((refine aP.split (fun h=>?_) (fun h=>?_)<;>simp only[h,go_sem,hg]<;>try simp only[dD] at h))
     all_goals(
      refine hK8 _ ?_;clear hK8 K8
      refine aa.cond rfl (fun c81=>?_) (fun c81=>?_)
      ·(
        try simp only[dD] at c81
        refine aa.ah fun K9 hK9=>?_
        refine aa.region ?_
        simp only[go_sem]
        refine hK9 _ ?_;clear hK9 K9
        refine aa.dK [0,1,2,3,4,5] [Z0,some [aT b m],some (aR b m),some [ao x],some [ao x],some [ao x]] [b.ids.length] 6 aj jG hup (Nat.le_refl _) jZ gW ⟨rfl,trivial⟩ (Nat.le_refl _) ?_
        refine aa.ret ?_
        try simp only[go_sem]
        clear hK7 K7
        first
        |exact hK _ _ _ b _ m (r9 e2 hb af af (.inl af)) rfl rfl rfl
        |exact hK _ _ _ b _ m (r9 e2 hb af af (.inr (.inl af))) rfl rfl rfl
        |exact hK _ _ _ b _ m (r9 e2 hb af af (.inr (.inr (.inl af)))) rfl rfl rfl
        |exact hK _ _ _ b _ m (r9 e2 hb af af (.inr (.inr (.inr af)))) rfl rfl rfl)
      ·first|exact Bool.noConfusion c81|(
        try simp only[dD] at c81
        refine aa.skip ?_
        refine hK7 _ ?_;clear hK7 K7
        refine aa.ah fun K10 hK10=>?_
        refine aa.ah fun K11 hK11=>?_
        refine aa.region ?_
        simp only[go_sem]
        refine hK11 _ ?_;clear hK11 K11
        refine aa.cond rfl (fun c84=>?_) (fun c84=>?_)
        ·(
          try simp only[dD] at c84
          refine aa.ah fun K12 hK12=>?_
          refine aa.region ?_
          simp only[go_sem]
          repeat'((refine aQ.gQ af ?_;(try simp only[go_sem])))
          refine hK12 _ ?_;clear hK12 K12
          refine aa.ah fun K13 hK13=>?_
          rw[uI (o':=⟨f.id,f.ord,f.acc,f.sym,f.aD,f.au,f.aE,f.time,false⟩) hb (spare 9 m)]
          refine aa.region ?_
          simp only[go_sem]
          refine hK13 _ ?_;clear hK13 K13
          refine aa.dK [0,1,2,3,4,5] [Z0,some [aT (cT b x).1 m],some (aR (cT b x).1 m),some [ao x],some [ao x],some [ao x]] [b.ids.length] 6 aj jG hup (Nat.le_refl _) (by rw[uf e2 hb af af af af af af af];exact(vU rfl rfl rfl rfl).trans (by simp[aR])) gW ⟨rfl,trivial⟩ (Nat.le_refl _) ?_
          refine aa.ret ?_
          try simp only[go_sem]
          clear hK10 K10
          (exact hK _ _ _ (cT b x).1 0 m (by rw[uf e2 hb af af af af af af af]) rfl (by rw[uf e2 hb af af af af af af af]) rfl))
        ·(
          try simp only[dD] at c84
          refine aa.skip ?_
          refine hK10 _ ?_;clear hK10 K10
          refine aa.ah fun K14 hK14=>?_
          refine aa.ah fun K15 hK15=>?_
          refine aa.bA [0,1,2,3,4,5,6] [] ae ae rfl ?_
          simp only[go_sem,hg]
          refine hK15 _ ?_;clear hK15 K15
          refine aa.cond rfl (fun c94=>?_) (fun c94=>?_)
          ·(
            try simp only[dD] at c94
            refine aa.ah fun K16 hK16=>?_
            refine aa.region ?_
            simp only[go_sem]
            refine hK16 _ ?_;clear hK16 K16
            refine aa.dK [0,1,2,3,4,5] [Z0,some [aT b m],some (aR b m),some [ao x],some [ao x],some [ao x]] [b.ids.length] 6 aj jG hup (Nat.le_refl _) jZ gW ⟨rfl,trivial⟩ (Nat.le_refl _) ?_
            refine aa.ret ?_
            try simp only[go_sem]
            clear hK14 K14
            (exact hK _ _ _ b _ m (DA e2 hb af af af af af af af af) rfl rfl rfl))
          ·(
            try simp only[dD] at c94
            refine aa.skip ?_
            refine hK14 _ ?_;clear hK14 K14
            refine aa.ah fun K17 hK17=>?_
            refine aa.wq (.take 0 (.take 1 (.take 2 (.take 3 (.take 4 (.take 5 (.take 6 (.take 7 (.fork (.alt 8 (.take 9 (.take 10 (.take 11 (.take 12 (.take 13 (.take 14 .done)))))) (.alt 12 (.take 8 (.take 9 (.take 10 (.take 11 (.take 13 (.take 14 .done)))))) .ends))))))))))) [[],[0],[0,1],[0,1,2],[],[4],[4,5],[4,5,6],[0,1,2,3,4,5,6,7],[0,1,2,3,4,5,6,7,8],[0,1,2,3,4,5,6,7,8,9],[0,1,2,3,4,5,6,7,8,9],[],[0,1,2,3,4,5,6,7,8,9,10,12],[0,1,2,3,4,5,6,7,8,9,10,11,12,13]] [7] ae ae aj ?_
            simp only[go_sem,hg]
            refine And.intro ?_ ?_
            repeat'((refine ak.one (s4 b.aq f.ord ab) ae rfl ?_;simp only[go_sem,hg]))
            all_goals(
             refine hK17 _ ?_;clear hK17 K17
             refine aa.ah fun K18 hK18=>?_
             refine aa.ah fun K19 hK19=>?_
             refine aa.bA [0,1,2,3,4,5,6,7,8,9,10,11,12] [] ae ae rfl ?_
             simp only[go_sem,hg]
             repeat'(first|(refine ak.one (Fb (findF b.aq f.ord).1 f.aD x.aE) ae rfl ?_;simp only[go_sem,hg])|(refine aP.split (fun h=>?_) (fun h=>?_)<;>simp only[h,go_sem,hg]<;>try simp only[dD] at h))
             all_goals(
              refine hK19 _ ?_;clear hK19 K19
              refine aa.cond rfl (fun c119=>?_) (fun c119=>?_)
              ·(
                try simp only[dD] at c119
                refine aa.ah fun K20 hK20=>?_
                refine aa.region ?_
                simp only[go_sem]
                refine hK20 _ ?_;clear hK20 K20
                refine aa.dK [0,1,2,3,4,5] [Z0,some [aT b m],some (aR b m),some [ao x],some [ao x],some [ao x]] [b.ids.length] 6 aj jG hup (Nat.le_refl _) jZ gW ⟨rfl,trivial⟩ (Nat.le_refl _) ?_
                refine aa.ret ?_
                try simp only[go_sem]
                clear hK18 K18
                first
                |exact hK _ _ _ b _ m (xy e2 hb af af af af af af af af (.inl af)) rfl rfl rfl
                |exact hK _ _ _ b _ m (xy e2 hb af af af af af af af af (.inr af)) rfl rfl rfl)
              ·first|exact Bool.noConfusion c119|(
                try simp only[dD] at c119
                refine aa.skip ?_
                refine hK18 _ ?_;clear hK18 K18
                refine aa.ah fun K21 hK21=>?_
                refine aa.region ?_
                simp only[go_sem]
                repeat'((refine aQ.gQ af ?_;(try simp only[go_sem])))
                refine hK21 _ ?_;clear hK21 K21
                refine aa.ah fun K22 hK22=>?_
                rw[uI (o':=⟨f.id,f.ord,f.acc,f.sym,f.aD,x.au,f.aE,f.time,f.live⟩) hb (spare 9 m)]
                have hb1:(b.av.set n ⟨f.id,f.ord,f.acc,f.sym,f.aD,x.au,f.aE,f.time,f.live⟩)[n]?=some ⟨f.id,f.ord,f.acc,f.sym,f.aD,x.au,f.aE,f.time,f.live⟩:=List.getElem?_set_self hn
                have hg2:=yK hb1 (spare 9 m)
                refine aa.region ?_
                simp only[go_sem,hg2]
                refine hK22 _ ?_;clear hK22 K22
                refine aa.ah fun K23 hK23=>?_
                rw[uI (o':=⟨f.id,f.ord,f.acc,f.sym,f.aD,x.au,x.aE,f.time,f.live⟩) hb1 (spare 9 m),List.set_set]
                refine aa.region ?_
                simp only[go_sem]
                refine hK23 _ ?_;clear hK23 K23
                refine aa.dK [0,1,2,3,4,5] [Z0,some [aT (cT b x).1 m],some (aR (cT b x).1 m),some [ao x],some [ao x],some [ao x]] [b.ids.length] 6 aj jG hup (Nat.le_refl _) (by rw[ug e2 hb af af af af af af af af af af];exact(vU rfl rfl rfl rfl).trans (by simp[aR])) gW ⟨rfl,trivial⟩ (Nat.le_refl _) ?_
                refine aa.ret ?_
                try simp only[go_sem]
                (exact hK _ _ _ (cT b x).1 0 m (by rw[ug e2 hb af af af af af af af af af af]) rfl (by rw[ug e2 hb af af af af af af af af af af]) rfl)))))))))))
theorem Mu{x:Ex}(h:dh x=true):x.au≤4611686018427387904∧0≤x.time∧x.time≤4611686018427387904:=by
 simp only[dh,ca,ck,Bool.and_eq_true,decide_eq_true_eq] at h
 omega
theorem DP{b:Bk}{x:Ex}(h:x.time<b.clock):cd b x=(b,1):=by unfold cd;rw[if_pos h]
section
variable{b:Bk}{x:Ex}(h0:¬x.time<b.clock)
include h0
theorem DT(hk:x.kind=1)(h:¬(dS b.aq (kO x)).2=0):cd b x=(b,2):=by unfold cd;rw[if_neg h0,if_pos hk];simp only[if_neg h]
theorem DU(hk:x.kind=1)(h:(dS b.aq (kO x)).2=0):cd b x=(⟨(dS b.aq (kO x)).1,b.av,b.ids,b.clock,b.bad⟩,0):=by unfold cd;rw[if_neg h0,if_pos hk];simp only[if_pos h]
variable(hk1:¬x.kind=1)
include hk1
theorem xB(hk:x.kind=7∨x.kind=8):cd b x=cT b x:=by unfold cd;rw[if_neg h0,if_neg hk1,if_pos hk]
variable(hk7:¬x.kind=7)(hk8:¬x.kind=8)
include hk7 hk8
variable{id:Bs}(hid:(if x.kind=4 then x.ref else x.ord)=id)
include hid
theorem sd(h:(findF b.aq id).2=false∨(findF b.aq id).1.bZ=false):cd b x=(b,2):=by
 unfold cd;rw[if_neg h0,if_neg hk1,if_neg (by simp[hk7,hk8])];simp only[hid];rw[if_pos h]
variable(g1:(findF b.aq id).2=true)(g2:(findF b.aq id).1.bZ=true)
include g1 g2
theorem oY(h:(findF b.aq id).1.acc≠x.acc∨(findF b.aq id).1.sym≠x.sym∨(findF b.aq id).1.aD≠x.aD):cd b x=(b,3):=by
 unfold cd;rw[if_neg h0,if_neg hk1,if_neg (by simp[hk7,hk8])];simp only[hid];rw[if_neg (by simp[g1,g2]),if_pos h]
variable(g3:(findF b.aq id).1.acc=x.acc)(g4:(findF b.aq id).1.sym=x.sym)(g5:(findF b.aq id).1.aD=x.aD)
include g3 g4 g5
theorem DS(hk:x.kind=2):cd b x=ek b x:=by
 unfold cd;rw[if_neg h0,if_neg hk1,if_neg (by simp[hk7,hk8])];simp only[hid];rw[if_neg (by simp[g1,g2]),if_neg (by simp[g3,g4,g5]),if_pos hk]
variable(hk2:¬x.kind=2)
include hk2
theorem DV(hk:x.kind=4):cd b x=eH b x:=by
 unfold cd;rw[if_neg h0,if_neg hk1,if_neg (by simp[hk7,hk8])];simp only[hid];rw[if_neg (by simp[g1,g2]),if_neg (by simp[g3,g4,g5]),if_neg hk2,if_pos hk]
variable(hk4:¬x.kind=4)
include hk4
theorem DQ(h:¬(ej b.aq x.ord).2=0):cd b x=(b,2):=by
 unfold cd;rw[if_neg h0,if_neg hk1,if_neg (by simp[hk7,hk8])];simp only[hid];rw[if_neg (by simp[g1,g2]),if_neg (by simp[g3,g4,g5]),if_neg hk2,if_neg hk4];simp only[if_neg h]
theorem DR(h:(ej b.aq x.ord).2=0):cd b x=(⟨(ej b.aq x.ord).1,b.av,b.ids,b.clock,b.bad⟩,0):=by
 unfold cd;rw[if_neg h0,if_neg hk1,if_neg (by simp[hk7,hk8])];simp only[hid];rw[if_neg (by simp[g1,g2]),if_neg (by simp[g3,g4,g5]),if_neg hk2,if_neg hk4];simp only[if_pos h]
end
theorem iX:∀i,i≠2→i<5→cA [0,1,2,3,4] i=some i:=by
 intro i h1 h2
 have:i=0∨i=1∨i=3∨i=4:=by omega
 rcases this with rfl|rfl|rfl|rfl<;>rfl
theorem iS{os ids y1 y2:AV}{k c m:Nat}{l:List Dn}{x:Ex}{rest:List (Option (List AV))}(h0:os.b7 (cA [0,1,2,3,4])=os)(hi:ids.b7 (cA [0,1,2,3,4])=ids)(h1:y1.b7 (cA [0,1,2,3,4])=y1)(h2:y2.b7 (cA [0,1,2,3,4])=y2):
 jF (Z0::some [.agg [os,.mu 2 9 0 k c,ids,y1,y2]]::some (l.map cG++spare 9 m)::some [ao x]::some [ao x]::rest) [0,1,2,3,4]=[Z0,some [.agg [os,.mu 2 9 0 k c,ids,y1,y2]],some (l.map cG++spare 9 m),some [ao x],some [ao x]]:=by
 show[Z0,some [.agg [os.b7 _,.mu 2 9 0 k c,ids.b7 _,y1.b7 _,y2.b7 _]],some ((l.map cG++spare 9 m).map _),some [ao x],some [ao x]]=_
 rw[pa,h0,hi,h1,h2]
theorem qS{n k:Nat}(h:n≤k){x:AV}(hx:fm n x=true):fm k x=true:=by
 cases x<;>simp only[fm,Bool.and_eq_true,bne_iff_ne,decide_eq_true_eq] at hx ⊢ <;>first|(exact⟨hx.1,by omega⟩)|(simp at hx;done)|skip
 case sl t k es=>cases t<;>simp[fm] at hx ⊢;exact hx
 case fn f cs=>cases cs<;>simp[fm] at hx ⊢
theorem RN{n k:Nat}(h:n≤k){x:AV}(hx:kp n x=true):kp k x=true:=by
 cases x with
 |agg cs=>exact List.all_eq_true.2 fun y hy=>qS h (List.all_eq_true.1 hx y hy)
 |ax cs=>simp[kp,fm] at hx
 |fn f cs=>exact qS (x:= .fn f cs) h hx
 |sl t k es=>exact qS (x:= .sl t k es) h hx
 |mu id k o l c=>exact qS (x:= .mu id k o l c) h hx
 |ptr id i o=>exact qS (x:= .ptr id i o) h hx
 |_=>rfl
theorem pr{n k:Nat}(h:n≤k){l up:List AV}(h1:l.all (kp k)=true)(h2:up.all (kp n)=true):(l++up).all (kp k)=true:=by
 rw[List.all_append,h1,Bool.true_and]
 exact List.all_eq_true.2 fun x hx=>RN h (List.all_eq_true.1 h2 x hx)
theorem xa{no nt:Nat}:∀{l r:List (Option (List AV))},iH no nt l=true→gi no nt (l++r) l
 |[],_,_=>by unfold gi;trivial
 |x::l,r,h=>by
  simp only[iH,List.all_cons,Bool.and_eq_true] at h
  refine⟨.inr ⟨rfl,fun es hes e he z hz=>?_⟩,xa h.2⟩
  have h1:=h.1
  rw[hes] at h1
  exact List.all_eq_true.1 (List.all_eq_true.1 h1 e he) z hz
theorem aa.cut{E:Env}{c:Code}{Q:Exit→St→Prop}{tmps tmps' up:List AV}{own' rest:List (Option (List AV))}{tk':List Nat}{gl:Nat→Option (List AV)}{n:Nat}(hup:up.all (kp n)=true)(hn:n≤own'.length)(h0:1≤tk'.length)(hb:iH own'.length tk'.length own'=true)(h1:jO own'.length tk'.length tmps tmps')(hk:jl tk' tk')
 (hw:aa E c Q ⟨tmps',own',tk',gl,none,up⟩):aa E c Q ⟨tmps,own'++rest,tk',gl,none,up⟩:=
 aa.weaken (t:=⟨tmps',own',tk',gl,none,up⟩) ⟨h1,xa hb,hk,rfl,rfl,rfl,List.all_eq_true.2 fun x hx=>vj hn h0 (List.all_eq_true.1 hup x hx)⟩ hw
set_option maxRecDepth 100000 in
theorem D8{ops:Array Oper}{l:List Oper}{Q:Exit→St→Prop}{tmps up:List AV}{gl:Nat→Option (List AV)}{b:Bk}{x:Ex}{m:Nat}{dst:Option Tmp}{x0 x1:Operand}{tys:Array TypeId}{ty:TypeId}{pos:String}{after:Array Edge}
 (hx0:St.ev ⟨tmps,[Z0,some [aT b m],some (aR b m),some [ao x],some [ao x]],[b.ids.length],gl,none,up⟩ x0= .ptr 1 0 0) (hx1:St.ev ⟨tmps,[Z0,some [aT b m],some (aR b m),some [ao x],some [ao x]],[b.ids.length],gl,none,up⟩ x1=ao x)
 (hx:dh x=true) (htf:∀f∈b.av,0≤f.time∧f.time≤4611686018427387904) (ho:b.aq.length≤1000000) (hf:b.av.length≤1000000) (hup:(tmps++up).all (kp 5)=true)
 (h:∀(b':Bk) (e:Int) (m':Nat),cd b x=(b',e)→al E ops l Q (St.put ⟨tmps,[Z0,some [aT b' m'],some (aR b' m'),some [ao x],some [ao x]],[b'.ids.length],gl,none,up⟩ dst (i64 e))):
 al E ops (⟨dst,.call ⟨.value (.func 211),#[x0,x1],tys⟩,ty,pos,after,none⟩::l) Q ⟨tmps,[Z0,some [aT b m],some (aR b m),some [ao x],some [ao x]],[b.ids.length],gl,none,up⟩:=by
 refine al.call (caps:=[]) (rs:=[.tmp 4]) Tryz.func211 rfl Tryz.ntmps211 rfl ae rfl rfl ?_
 show aa E _ _ ⟨([St.ev ⟨tmps,[Z0,some [aT b m],some (aR b m),some [ao x],some [ao x]],[b.ids.length],gl,none,up⟩ x0,St.ev ⟨tmps,[Z0,some [aT b m],some (aR b m),some [ao x],some [ao x]],[b.ids.length],gl,none,up⟩ x1]++[])++List.replicate (126-2) (.v undef),[Z0,some [aT b m],some (aR b m),some [ao x],some [ao x]],[b.ids.length],gl,none,tmps++up⟩
 rw[hx0,hx1]
 have hK:∀(tm:List AV) (ow:List (Option (List AV))) (tk:List Nat) (b':Bk) (e:Int) (m':Nat),cd b x=(b',e)→ow=[Z0,some [aT b' m'],some (aR b' m'),some [ao x],some [ao x]]→tk=[b'.ids.length]→tm[4]?=some (i64 e)→bV E.P [.tmp 4] ⟨tmps,[Z0,some [aT b m],some (aR b m),some [ao x],some [ao x]],[b.ids.length],gl,none,up⟩ (fun s z=>al E ops l Q (s.put dst z)) .ret ⟨tm,ow,tk,gl,none,tmps++up⟩:=by
  intro tm ow tk b' e m' hb' how htk h4
  subst how;subst htk
  refine⟨rfl,?_⟩
  have:St.ev ⟨tm,[Z0,some [aT b' m'],some (aR b' m'),some [ao x],some [ao x]],[b'.ids.length],gl,none,tmps++up⟩ (.tmp 4)=i64 e:=by simp[St.ev,List.getD_eq_getElem?_getD,h4]
  show al E ops l Q (St.put _ dst (fu [St.ev _ (.tmp 4)]))
  rw[this]
  exact h b' e m' hb'
 generalize bV E.P [.tmp 4] ⟨tmps,[Z0,some [aT b m],some (aR b m),some [ao x],some [ao x]],[b.ids.length],gl,none,up⟩ (fun s z=>al E ops l Q (s.put dst z))=Q' at hK ⊢
 generalize tmps++up=up' at hup hK ⊢
 clear h hx0 hx1
 have hxx:=Mu hx
 have hq:=hxx.1
 have htx:=hxx.2
 refine aa.ah fun K1 hK1=>?_
 refine aa.region ?_
 simp only[go_sem]
 refine hK1 _ ?_;clear hK1 K1
 refine aa.ah fun K2 hK2=>?_
 refine aa.ah fun K3 hK3=>?_
 refine aa.bA [0,1,2,3,4,5,6] [] ae ae rfl ?_
 simp only[go_sem]
 refine hK3 _ ?_;clear hK3 K3
 refine aa.cond rfl (fun c18=>?_) (fun c18=>?_)
 ·(
  try simp only[dD] at c18
  refine aa.ah fun K4 hK4=>?_
  refine aa.region ?_
  simp only[go_sem]
  refine hK4 _ ?_;clear hK4 K4
  refine aa.dK [0,1,2,3,4] [Z0,some [aT b m],some (aR b m),some [ao x],some [ao x]] [b.ids.length] 5 aj iX hup (Nat.le_refl _) (iS rfl rfl rfl rfl) iu ⟨rfl,trivial⟩ (Nat.le_refl _) ?_
  refine aa.ret ?_
  try simp only[go_sem]
  clear hK2 K2
  (exact hK _ _ _ b _ m (DP af) rfl rfl rfl))
 ·(
  try simp only[dD] at c18
  refine aa.skip ?_
  refine hK2 _ ?_;clear hK2 K2
  refine aa.ah fun K5 hK5=>?_
  refine aa.ah fun K6 hK6=>?_
  refine aa.region ?_
  simp only[go_sem]
  refine hK6 _ ?_;clear hK6 K6
  refine aa.block ?_
  refine aa.ah fun K7 hK7=>?_
  refine aa.region ?_
  simp only[go_sem]
  refine hK7 _ ?_;clear hK7 K7
  refine aa.cond rfl (fun c21=>?_) (fun c21=>?_)
  ·(
   try simp only[dD] at c21
   refine aa.ah fun K8 hK8=>?_
   refine aa.bA [0,1,2,3,4,5,6,7,8,9,10,11,12,13,14,15,16,17,18,19,20,21,22] [] ae ae rfl ?_
   simp only[go_sem]
   repeat'((refine ak.of (U8 b.aq (kO x) ab) ae rfl ?_;rintro r t ⟨⟨y,rfl,hy⟩,rfl⟩<;>simp only[go_sem]))
   refine hK8 _ ?_;clear hK8 K8
   refine aa.ah fun K9 hK9=>?_
   refine aa.ah fun K10 hK10=>?_
   refine aa.region ?_
   simp only[go_sem]
   refine hK10 _ ?_;clear hK10 K10
   refine aa.cond rfl (fun c45=>?_) (fun c45=>?_)
   ·(
    try simp only[dD] at c45
    refine aa.ah fun K11 hK11=>?_
    refine aa.region ?_
    simp only[go_sem]
    refine hK11 _ ?_;clear hK11 K11
    refine aa.dK [0,1,2,3,4] [Z0,some [aT b m],some (aR b m),some [ao x],some [ao x]] [b.ids.length] 5 aj iX hup (Nat.le_refl _) (iS rfl rfl rfl rfl) iu ⟨rfl,trivial⟩ (Nat.le_refl _) ?_
    refine aa.ret ?_
    try simp only[go_sem]
    clear hK9 K9 hK5 K5
    (exact hK _ _ _ b _ m (DT af af ab) rfl rfl rfl))
   ·(
    try simp only[dD] at c45
    refine aa.skip ?_
    refine hK9 _ ?_;clear hK9 K9
    refine aa.ah fun K12 hK12=>?_
    have hx9:=hy ab
    subst hx9
    refine aa.region ?_
    simp only[go_sem]
    refine hK12 _ ?_;clear hK12 K12
    refine aa.ah fun K13 hK13=>?_
    refine aa.region ?_
    simp only[go_sem]
    refine hK13 _ ?_;clear hK13 K13
    refine aa.dK [0,1,2,3,4] [Z0,some [aT ⟨(dS b.aq (kO x)).1,b.av,b.ids,b.clock,b.bad⟩ m],some (aR ⟨(dS b.aq (kO x)).1,b.av,b.ids,b.clock,b.bad⟩ m),some [ao x],some [ao x]] [b.ids.length] 5 aj iX hup (Nat.le_refl _) (iS rfl rfl rfl rfl) iu ⟨rfl,trivial⟩ (Nat.le_refl _) ?_
    refine aa.ret ?_
    try simp only[go_sem]
    clear hK5 K5
    (exact hK _ _ _ _ _ m (DU af af ab) rfl rfl rfl)))
  ·(
   try simp only[dD] at c21
   refine aa.ah fun K14 hK14=>?_
   refine aa.ah fun K15 hK15=>?_
   refine aa.region ?_
   simp only[go_sem]
   refine hK15 _ ?_;clear hK15 K15
   refine aa.cond rfl (fun c50=>?_) (fun c50=>?_)
   ·(
    try simp only[dD] at c50
    refine aa.skip ?_
    refine hK14 _ ?_;clear hK14 K14
    refine aa.cond rfl (fun c50=>?_) (fun c50=>?_)
    ·(
     try simp only[dD] at c50
     refine aa.ah fun K16 hK16=>?_
     refine aa.aX ?_
     refine al.app (l1:=[_,_]) (l2:=_::_) ?_
     simp only[go_sem]
     refine xz (b:=b) (x:=x) (m:=m) rfl rfl htx htf ho hf (pr aj rfl hup) ?_
     intro b2 e2 m2 hb2
     refine al.of ?_
     simp only[go_sem]
     refine hK16 _ ?_;clear hK16 K16
     refine aa.dK [0,1,2,3,4] [Z0,some [aT b2 m2],some (aR b2 m2),some [ao x],some [ao x]] [b2.ids.length] 5 aj iX hup (Nat.le_refl _) (iS rfl rfl rfl rfl) iu ⟨rfl,trivial⟩ (Nat.le_refl _) ?_
     refine aa.ret ?_
     try simp only[go_sem]
     clear hK5 K5
     (exact hK _ _ _ b2 _ m2 ((xB af af (.inl af)).trans hb2) rfl rfl rfl))
    ·((try simp only[dD] at c50);exfalso;omega))
   ·(
    try simp only[dD] at c50
    refine aa.region ?_
    simp only[go_sem]
    refine hK14 _ ?_;clear hK14 K14
    refine aa.cond rfl (fun c50=>?_) (fun c50=>?_)
    ·(
     try simp only[dD] at c50
     refine aa.ah fun K58 hK58=>?_
     refine aa.aX ?_
     refine al.app (l1:=[_,_]) (l2:=_::_) ?_
     simp only[go_sem]
     refine xz (b:=b) (x:=x) (m:=m) rfl rfl htx htf ho hf (pr aj rfl hup) ?_
     intro b2 e2 m2 hb2
     refine al.of ?_
     simp only[go_sem]
     refine hK58 _ ?_;clear hK58 K58
     refine aa.dK [0,1,2,3,4] [Z0,some [aT b2 m2],some (aR b2 m2),some [ao x],some [ao x]] [b2.ids.length] 5 aj iX hup (Nat.le_refl _) (iS rfl rfl rfl rfl) iu ⟨rfl,trivial⟩ (Nat.le_refl _) ?_
     refine aa.ret ?_
     try simp only[go_sem]
     clear hK5 K5
     (exact hK _ _ _ b2 _ m2 ((xB af af (.inr af)).trans hb2) rfl rfl rfl))
    ·(
     try simp only[dD] at c50
     refine aa.skip ?_
     refine hK5 _ ?_;clear hK5 K5
     refine aa.ah fun K59 hK59=>?_
     refine aa.region ?_
     simp only[go_sem]
     refine hK59 _ ?_;clear hK59 K59
     refine aa.ah fun K60 hK60=>?_
     refine aa.ah fun K61 hK61=>?_
     refine aa.region ?_
     simp only[go_sem]
     refine hK61 _ ?_;clear hK61 K61
     refine aa.cond rfl (fun c60=>?_) (fun c60=>?_)
     ·(
      try simp only[dD] at c60
      refine aa.region ?_
      simp only[go_sem]
      refine hK60 _ ?_;clear hK60 K60
      refine aa.ah fun K62 hK62=>?_
      refine aa.region ?_
      simp only[go_sem]
      repeat'((refine ak.one (s4 b.aq x.ref ab) ae rfl ?_;simp only[go_sem]))
      refine hK62 _ ?_;clear hK62 K62
      refine aa.ah fun K63 hK63=>?_
      refine aa.ah fun K64 hK64=>?_
      refine aa.region ?_
      simp only[go_sem]
      repeat'((refine aP.split (fun h=>?_) (fun h=>?_)<;>simp only[h,go_sem]<;>try simp only[dD] at h))
      all_goals(
       refine hK64 _ ?_;clear hK64 K64
       refine aa.cond rfl (fun c78=>?_) (fun c78=>?_)
       ·(
        try simp only[dD] at c78
        refine aa.ah fun K65 hK65=>?_
        refine aa.region ?_
        simp only[go_sem]
        refine hK65 _ ?_;clear hK65 K65
        refine aa.dK [0,1,2,3,4] [Z0,some [aT b m],some (aR b m),some [ao x],some [ao x]] [b.ids.length] 5 aj iX hup (Nat.le_refl _) (iS rfl rfl rfl rfl) iu ⟨rfl,trivial⟩ (Nat.le_refl _) ?_
        refine aa.ret ?_
        try simp only[go_sem]
        clear hK63 K63
        first
        |exact hK _ _ _ b _ m (sd af af af af (id:=x.ref) (if_pos af) (.inl af)) rfl rfl rfl
        |exact hK _ _ _ b _ m (sd af af af af (id:=x.ref) (if_pos af) (.inr af)) rfl rfl rfl)
       ·first|exact Bool.noConfusion c78|(
        try simp only[dD] at c78
        refine aa.skip ?_
        refine hK63 _ ?_;clear hK63 K63
        refine aa.ah fun K66 hK66=>?_
        refine aa.ah fun K67 hK67=>?_
        refine aa.region ?_
        simp only[go_sem]
        repeat'((refine aP.split (fun h=>?_) (fun h=>?_)<;>simp only[h,go_sem]<;>try simp only[dD] at h))
        all_goals(
         refine hK67 _ ?_;clear hK67 K67
         refine aa.cond rfl (fun c97=>?_) (fun c97=>?_)
         ·(
          try simp only[dD] at c97
          refine aa.ah fun K68 hK68=>?_
          refine aa.region ?_
          simp only[go_sem]
          refine hK68 _ ?_;clear hK68 K68
          refine aa.dK [0,1,2,3,4] [Z0,some [aT b m],some (aR b m),some [ao x],some [ao x]] [b.ids.length] 5 aj iX hup (Nat.le_refl _) (iS rfl rfl rfl rfl) iu ⟨rfl,trivial⟩ (Nat.le_refl _) ?_
          refine aa.ret ?_
          try simp only[go_sem]
          clear hK66 K66
          first
          |exact hK _ _ _ b _ m (oY af af af af (id:=x.ref) (if_pos af) af af (.inl af)) rfl rfl rfl
          |exact hK _ _ _ b _ m (oY af af af af (id:=x.ref) (if_pos af) af af (.inr (.inl af))) rfl rfl rfl
          |exact hK _ _ _ b _ m (oY af af af af (id:=x.ref) (if_pos af) af af (.inr (.inr af))) rfl rfl rfl)
         ·first|exact Bool.noConfusion c97|(
          try simp only[dD] at c97
          refine aa.skip ?_
          refine hK66 _ ?_;clear hK66 K66
          refine aa.ah fun K69 hK69=>?_
          refine aa.ah fun K70 hK70=>?_
          refine aa.region ?_
          simp only[go_sem]
          refine hK70 _ ?_;clear hK70 K70
          refine aa.block ?_
          refine aa.ah fun K71 hK71=>?_
          refine aa.region ?_
          simp only[go_sem]
          refine hK71 _ ?_;clear hK71 K71
          refine aa.cond rfl (fun c100=>?_) (fun c100=>?_)
          ·((try simp only[dD] at c100);exfalso;omega)
          ·(
           try simp only[dD] at c100
           refine aa.ah fun K73 hK73=>?_
           refine aa.region ?_
           simp only[go_sem]
           refine hK73 _ ?_;clear hK73 K73
           refine aa.cond rfl (fun c105=>?_) (fun c105=>?_)
           ·(
            try simp only[dD] at c105
            refine aa.ah fun K74 hK74=>?_
            refine aa.cut (tmps':=[.ptr 1 0 0,.any,.any,.ptr 5 0 0]++List.replicate 122 .any) (own':=[Z0,some [aT b m],some (aR b m),some [ao x],some [ao x],some [ao x]]) (rest:=[_]) hup (Nat.le_of_ble_eq_true rfl) (Nat.le_refl _) gW (by repeat'(first|exact trivial|exact .inl rfl|exact .inr ⟨rfl,rfl⟩|refine And.intro ?_ ?_)) ⟨rfl,trivial⟩ ?_;simp only[go_sem]
            refine aa.aX ?_
            refine al.app (l1:=[_,_]) (l2:=_::_) ?_
            simp only[go_sem]
            refine WU (b:=b) (x:=x) (m:=m) rfl rfl  ho hf (pr aj rfl hup) ?_
            intro b2 e2 m2 hb2
            refine al.of ?_
            simp only[go_sem]
            refine hK74 _ ?_;clear hK74 K74
            refine aa.dK [0,1,2,3,4] [Z0,some [aT b2 m2],some (aR b2 m2),some [ao x],some [ao x]] [b2.ids.length] 5 aj iX hup (Nat.le_refl _) (iS rfl rfl rfl rfl) iu ⟨rfl,trivial⟩ (Nat.le_refl _) ?_
            refine aa.ret ?_
            try simp only[go_sem]
            clear hK69 K69
            (exact hK _ _ _ b2 _ m2 ((DV af af af af (id:=x.ref) (if_pos af) af af af af af af af).trans hb2) rfl rfl rfl))
           ·((try simp only[dD] at c105);exfalso;omega)))))))
     ·(
      try simp only[dD] at c60
      refine aa.skip ?_
      refine hK60 _ ?_;clear hK60 K60
      refine aa.ah fun K81 hK81=>?_
      refine aa.region ?_
      simp only[go_sem]
      repeat'((refine ak.one (s4 b.aq x.ord ab) ae rfl ?_;simp only[go_sem]))
      refine hK81 _ ?_;clear hK81 K81
      refine aa.ah fun K82 hK82=>?_
      refine aa.ah fun K83 hK83=>?_
      refine aa.region ?_
      simp only[go_sem]
      repeat'((refine aP.split (fun h=>?_) (fun h=>?_)<;>simp only[h,go_sem]<;>try simp only[dD] at h))
      all_goals(
       refine hK83 _ ?_;clear hK83 K83
       refine aa.cond rfl (fun c78=>?_) (fun c78=>?_)
       ·(
        try simp only[dD] at c78
        refine aa.ah fun K84 hK84=>?_
        refine aa.region ?_
        simp only[go_sem]
        refine hK84 _ ?_;clear hK84 K84
        refine aa.dK [0,1,2,3,4] [Z0,some [aT b m],some (aR b m),some [ao x],some [ao x]] [b.ids.length] 5 aj iX hup (Nat.le_refl _) (iS rfl rfl rfl rfl) iu ⟨rfl,trivial⟩ (Nat.le_refl _) ?_
        refine aa.ret ?_
        try simp only[go_sem]
        clear hK82 K82
        first
        |exact hK _ _ _ b _ m (sd af af af af (id:=x.ord) (if_neg af) (.inl af)) rfl rfl rfl
        |exact hK _ _ _ b _ m (sd af af af af (id:=x.ord) (if_neg af) (.inr af)) rfl rfl rfl)
       ·first|exact Bool.noConfusion c78|(
        try simp only[dD] at c78
        refine aa.skip ?_
        refine hK82 _ ?_;clear hK82 K82
        refine aa.ah fun K85 hK85=>?_
        refine aa.ah fun K86 hK86=>?_
        refine aa.region ?_
        simp only[go_sem]
        repeat'((refine aP.split (fun h=>?_) (fun h=>?_)<;>simp only[h,go_sem]<;>try simp only[dD] at h))
        all_goals(
         refine hK86 _ ?_;clear hK86 K86
         refine aa.cond rfl (fun c97=>?_) (fun c97=>?_)
         ·(
          try simp only[dD] at c97
          refine aa.ah fun K87 hK87=>?_
          refine aa.region ?_
          simp only[go_sem]
          refine hK87 _ ?_;clear hK87 K87
          refine aa.dK [0,1,2,3,4] [Z0,some [aT b m],some (aR b m),some [ao x],some [ao x]] [b.ids.length] 5 aj iX hup (Nat.le_refl _) (iS rfl rfl rfl rfl) iu ⟨rfl,trivial⟩ (Nat.le_refl _) ?_
          refine aa.ret ?_
          try simp only[go_sem]
          clear hK85 K85
          first
          |exact hK _ _ _ b _ m (oY af af af af (id:=x.ord) (if_neg af) af af (.inl af)) rfl rfl rfl
          |exact hK _ _ _ b _ m (oY af af af af (id:=x.ord) (if_neg af) af af (.inr (.inl af))) rfl rfl rfl
          |exact hK _ _ _ b _ m (oY af af af af (id:=x.ord) (if_neg af) af af (.inr (.inr af))) rfl rfl rfl)
         ·first|exact Bool.noConfusion c97|(
          try simp only[dD] at c97
          refine aa.skip ?_
          refine hK85 _ ?_;clear hK85 K85
          refine aa.ah fun K88 hK88=>?_
          refine aa.ah fun K89 hK89=>?_
          refine aa.region ?_
          simp only[go_sem]
          refine hK89 _ ?_;clear hK89 K89
          refine aa.block ?_
          refine aa.ah fun K90 hK90=>?_
          refine aa.region ?_
          simp only[go_sem]
          refine hK90 _ ?_;clear hK90 K90
          refine aa.cond rfl (fun c100=>?_) (fun c100=>?_)
          ·(
           try simp only[dD] at c100
           refine aa.ah fun K91 hK91=>?_
           refine aa.cut (tmps':=[.ptr 1 0 0,.any,.any,.ptr 5 0 0]++List.replicate 122 .any) (own':=[Z0,some [aT b m],some (aR b m),some [ao x],some [ao x],some [ao x]]) (rest:=[_]) hup (Nat.le_of_ble_eq_true rfl) (Nat.le_refl _) gW (by repeat'(first|exact trivial|exact .inl rfl|exact .inr ⟨rfl,rfl⟩|refine And.intro ?_ ?_)) ⟨rfl,trivial⟩ ?_;simp only[go_sem]
           refine aa.aX ?_
           refine al.app (l1:=[_,_]) (l2:=_::_) ?_
           simp only[go_sem]
           refine OE (b:=b) (x:=x) (m:=m) rfl rfl hq ho hf (pr aj rfl hup) ?_
           intro b2 e2 m2 hb2
           refine al.of ?_
           simp only[go_sem]
           refine hK91 _ ?_;clear hK91 K91
           refine aa.dK [0,1,2,3,4] [Z0,some [aT b2 m2],some (aR b2 m2),some [ao x],some [ao x]] [b2.ids.length] 5 aj iX hup (Nat.le_refl _) (iS rfl rfl rfl rfl) iu ⟨rfl,trivial⟩ (Nat.le_refl _) ?_
           refine aa.ret ?_
           try simp only[go_sem]
           clear hK88 K88
           (exact hK _ _ _ b2 _ m2 ((DS af af af af (id:=x.ord) (if_neg af) af af af af af af).trans hb2) rfl rfl rfl))
          ·(
           try simp only[dD] at c100
           refine aa.ah fun K92 hK92=>?_
           refine aa.region ?_
           simp only[go_sem]
           refine hK92 _ ?_;clear hK92 K92
           refine aa.cond rfl (fun c105=>?_) (fun c105=>?_)
           ·((try simp only[dD] at c105);exfalso;omega)
           ·(
            try simp only[dD] at c105
            refine aa.skip ?_
            refine hK88 _ ?_;clear hK88 K88
            refine aa.ah fun K94 hK94=>?_
            refine aa.bA [0,1,2,3,4,5,6,7,8,9,10,11] [] ae ae rfl ?_
            simp only[go_sem]
            repeat'((refine ak.of (UI b.aq x.ord ab) ae rfl ?_;rintro r t ⟨⟨y,rfl,hy⟩,rfl⟩<;>simp only[go_sem]))
            refine hK94 _ ?_;clear hK94 K94
            refine aa.ah fun K95 hK95=>?_
            refine aa.ah fun K96 hK96=>?_
            refine aa.region ?_
            simp only[go_sem]
            refine hK96 _ ?_;clear hK96 K96
            refine aa.cond rfl (fun c121=>?_) (fun c121=>?_)
            ·(
             try simp only[dD] at c121
             refine aa.ah fun K97 hK97=>?_
             refine aa.region ?_
             simp only[go_sem]
             refine hK97 _ ?_;clear hK97 K97
             refine aa.dK [0,1,2,3,4] [Z0,some [aT b m],some (aR b m),some [ao x],some [ao x]] [b.ids.length] 5 aj iX hup (Nat.le_refl _) (iS rfl rfl rfl rfl) iu ⟨rfl,trivial⟩ (Nat.le_refl _) ?_
             refine aa.ret ?_
             try simp only[go_sem]
             clear hK95 K95
             (exact hK _ _ _ b _ m (DQ af af af af (id:=x.ord) (if_neg af) af af af af af af af ab) rfl rfl rfl))
            ·(
             try simp only[dD] at c121
             refine aa.skip ?_
             refine hK95 _ ?_;clear hK95 K95
             refine aa.ah fun K98 hK98=>?_
             have hx9:=hy ab
             subst hx9
             refine aa.region ?_
             simp only[go_sem]
             refine hK98 _ ?_;clear hK98 K98
             refine aa.ah fun K99 hK99=>?_
             refine aa.region ?_
             simp only[go_sem]
             refine hK99 _ ?_;clear hK99 K99
             refine aa.dK [0,1,2,3,4] [Z0,some [aT ⟨(ej b.aq x.ord).1,b.av,b.ids,b.clock,b.bad⟩ m],some (aR ⟨(ej b.aq x.ord).1,b.av,b.ids,b.clock,b.bad⟩ m),some [ao x],some [ao x]] [b.ids.length] 5 aj iX hup (Nat.le_refl _) (iS rfl rfl rfl rfl) iu ⟨rfl,trivial⟩ (Nat.le_refl _) ?_
             refine aa.ret ?_
             try simp only[go_sem]
             (exact hK _ _ _ _ _ m (DR af af af af (id:=x.ord) (if_neg af) af af af af af af af ab) rfl rfl rfl)))))))))))))
end Go.Proofs.YthoonfpkfdjhiaaGreatDoor
end
